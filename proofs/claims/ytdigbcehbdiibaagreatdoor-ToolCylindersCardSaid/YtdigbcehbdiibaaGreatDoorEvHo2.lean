/- Own work. -/
import Derived.Test.YtdigbcehbdiibaaGreatDoorEvSp5
import Derived.MapKept
import GoSem.Instr.MapUpdate
import Derived.OrdersIn
set_option linter.all false
noncomputable section
def Qea:=@Array.getElem?_setIfInBounds_ne
def Qeb:=@Classical.byContradiction
def Qec:=@List.eq_nil_iff_forall_not_mem
def Qed:=@Array.getElem?_eq_none
def Qee:=@List.contains_iff_mem
def Qef:=@List.mem_iff_getElem
def Qeg:=@Array.ext_getElem?
namespace Go.Ev
open Go
section
variable{WB K:Nat->Prop}{J:List Value->World->Prop}{ρ ρ0:Rho}{H H0 H':List b7}{F F0:Fz}{w w0 w':World}{W':Nat->Prop}{up:List Value}{E:Env}{a:List a7}{ac:Act}{x:a7}{o:Oper}
variable{ds:List Deferred}{n:Nat}(hC:C2 E.P WB K J ρ0 H0 F0 w0 H ds w ρ F W' up)(hJ:Xb9 K J)(hv:VR ρ H F w a (ac.tmps.toList++up))(hn:ac.tmps.size=n)(hG:GOk E F w)
theorem de6{x:a7}{x':Value}(h:XC ρ H F w x x'):U2 ρ (i6 H) F w (da5 H x) x':=by
 cases h with
 |n h =>
  unfold da5;split
  ·split
   ·rename_i b hb;cases A9 b with
    |true=>exact .unk _
    |false=>exact h
   ·exact .unk _
  ·exact h
 |box id c g b hb hd he =>
  unfold da5;simp only[B0,hb,Ua8 he];exact .unk _
 |map id c g b t hb hd he =>
  unfold da5;simp only[B0,hb,Za7 he];exact .unk _
include hC hJ hv hn hG
omit hJ in
theorem we3{t:TypeId}{p:Nat}(ho:o.op=.load t (.tmp p))(hp:Nat.blt p n=true)(hu:E.P.underlying t≠none)(he:(gb1 E a H (.bload (szT E.P t) (agT E.P t) p)).run=some (x,H')) :
  f7 E.P o ac w (Jb3 E.P WB K J ρ0 H0 F0 w0 ρ H F w up ds x H'):=by
 have hyr:=kb8 hv hn hG (.tmp p) hp;simp only[gb1] at he;cases hs:ic4 0 H (b8 E a (.t p)) with
 |none=>rw[hs] at he;cases he
 |some q =>
 obtain⟨id,c,g,b⟩:=q;rw[hs] at he
 simp only at he
 obtain⟨h1,h2,h3,h4,h5⟩:=Jb4 hs hyr;cases hle:Nat.ble (c+szT E.P t) (len (j9 b.elems 0)) with
 |false=>rw[hle] at he;cases he
 |true =>
 rw[hle] at he;obtain⟨z,hz1,hz2⟩:=Ua0 he;obtain⟨e0,rfl⟩:x=z/\H=H':=by injection hz2 with e1 e2;exact⟨e1,e2.symm⟩
 rw[e0]
 clear e0 hz2
 obtain⟨_,_,_,_,hcont⟩:=hC.srel.has id b h2 (Ua8 h4) h3
 rcases hcont with⟨_,row,vs,tt,m1,m2,m3,m4⟩|⟨t',K',El,fl,es,clk,m1,_⟩
 case inr=>exact (Ob4 h4 m1).elim
 have hrow:j9 b.elems 0=row:=by rw[m1];rfl
 rw[hrow] at hle hz1;rw[j8] at hle;have hle:=Qae hle;have hti:∃i,E.P.info? t=some i/\i.size=szT E.P t:=by
  cases hd:E.P.underlying t with
  |none=>exact absurd hd hu
  |some d=>exact db4 hd
 obtain⟨ti,hi1,hi2⟩:=hti;generalize hsz:szT E.P t=k at *
 have hcell:∀j,j<k->w.cell? ⟨(ρ id).blk,c+j,none⟩=some (vs.getD (c+j) undef):=λj hj=>by
  have hlt:c+j<vs.size:=by omega
  simp[World.cell?,m2,hlt]
 have hrel:∀j,j<k->∀y,row[c+j]?=some y->XC ρ H F w y (vs.getD (c+j) undef):=λj hj y hy=>by
  have hlt:c+j<vs.size:=by omega
  exact (m4 (c+j) y _ hy (by simp[hlt])).2
 have hvals:∀(j:Nat) v,((List.range k).map λj=>vs.getD (c+j) undef)[j]?=some v->w.cell? (Addr.add ⟨(ρ id).blk,c,none⟩ j)=some v:=λj v hj=>by
  obtain⟨hj1,hj2⟩:=Ka5 hj;rw[V9 rfl];rw[<- hj2];exact hcell j hj1
 have hev:ac.eval (.tmp p)=.pointer (some ⟨(ρ id).blk,c,none⟩):=h5;cases hag:agT E.P t with
 |true =>
  rw[hag] at hz1;have hz1:some (a7.agg (m8 (da5 H) (E1 (j5 row c) k)))=some z:=hz1;injection hz1 with hz1;subst hz1;have hlc:(Go.loadCells ⟨(ρ id).blk,c,none⟩ k).run E.P w=.ok ((List.range k).map λj=>vs.getD (c+j) undef).toArray w:=by
   have:=run_loadCells_list (P:=E.P) w ⟨(ρ id).blk,c,none⟩ ((List.range k).map λj=>vs.getD (c+j) undef) hvals
   simpa using this
  refine .value (x':=.agg ((List.range k).map λj=>vs.getD (c+j) undef).toArray) (w':=w) ?_ ⟨ρ,F,W',hC,λ_ _ h=>h,.w (.val (.agg _ _ ?_ λi y y' hy hy'=>?_))⟩
  ·simp[execOp,ho,hev,Instr.loadAt,Instr.sureAddr,loadVar,Za1 hag,sizeOf,typeInfo,hi1,hi2,hlc]
  ·rw[j7,D0,C7];simp;omega
  ·rw[j7,D0,C7,Qbe] at hy;have hy':((List.range k).map λj=>vs.getD (c+j) undef)[i]?=some y':=by simpa using hy'
   obtain⟨hj1,hj2⟩:=Ka5 hy';rw[Qap,if_pos hj1,Qbf] at hy;cases hq:row[c+i]? with
   |none=>rw[hq] at hy;cases hy
   |some q =>
    rw[hq] at hy;injection hy with hy;subst hy;rw[<- hj2];exact de6 (hrel i hj1 q hq)
 |false =>
  rw[hag] at hz1;have hz1:(match E1 (j5 row c) k with | [x]=>some x | _=>none:Option a7)=some z:=hz1
  rw[D0,C7] at hz1;have hk1:k=1/\row[c]?=some z:=by
   have hl:((row.drop c).take k).length=k:=by simp;omega
   split at hz1
   ·rename_i y hy;injection hz1 with hz1;subst hz1;rw[hy] at hl;have hk:k=1:=by simpa using hl.symm
    refine⟨hk,?_⟩;have h0:((row.drop c).take k)[0]?=some y:=by rw[hy];rfl
    rw[Qap,if_pos (by omega),Qbf] at h0
    simpa using h0
   ·cases hz1
  obtain⟨hk,hz⟩:=hk1;subst hk;have hc0:=hcell 0 (by omega)
  rw[Nat.add_zero] at hc0;refine .value (x':=vs.getD c undef) (w':=w) ?_ ⟨ρ,F,W',hC,λ_ _ h=>h,.c ?_⟩
  ·simp[execOp,ho,hev,Instr.loadAt,Instr.sureAddr,loadVar,Qa5 hag hu,hc0]
  ·have:=hrel 0 (by omega) z (by rw[Nat.add_zero];exact hz)
   rwa [Nat.add_zero] at this
omit hJ in
theorem Me9{s:TypeId}{p f:Nat}{fs:Array Field}{fd:Field}(ho:o.op=.fieldAddr s (.tmp p) f)(hp:Nat.blt p n=true)(hs':E.P.underlying s=some (.struct fs))(hf:fs[f]?=some fd)(hz:szT E.P fd.type≠0)
  (he:(gb1 E a H (.bfld fd.offset p)).run=some (x,H')):f7 E.P o ac w (Jb3 E.P WB K J ρ0 H0 F0 w0 ρ H F w up ds x H'):=by
 have hyr:=kb8 hv hn hG (.tmp p) hp;simp only[gb1] at he;cases hs:ic4 0 H (b8 E a (.t p)) with
 |none=>rw[hs] at he;cases he
 |some q =>
 obtain⟨id,c,g,b⟩:=q;rw[hs] at he;have he':some (a7.ptr id 0 (c+fd.offset) g,H)=some (x,H'):=he;obtain⟨rfl,rfl⟩:x=a7.ptr id 0 (c+fd.offset) g/\H=H':=by injection he' with he';injection he' with e1 e2;exact⟨e1.symm,e2⟩
 obtain⟨h1,h2,h3,h4,h5⟩:=Jb4 hs hyr;obtain⟨ti,hi,hi0,hi1⟩:=sc5 hz;have hev:ac.eval (.tmp p)=.pointer (some ⟨(ρ id).blk,c,none⟩):=h5;refine .value (x':=.pointer (some (Addr.add ⟨(ρ id).blk,c,none⟩ fd.offset))) (w':=w) (by simp[execOp,ho,hev,Instr.fieldAt,Instr.sureAddr,run_underlying hs',hf,fieldPlace,sizeOf,typeInfo,hi,hi1]) ⟨ρ,F,W',hC,λ_ _ h=>h,.c ?_⟩
 rw[V9 rfl];exact .box id (c+fd.offset) g b h2 h3 h4
omit hJ in
theorem we4{p:Nat}(ho:o.op=.move (.tmp p)\/o.op=.assign (.tmp p))(hp:Nat.blt p n=true)
  (he:(gb1 E a H (.bmv p)).run=some (x,H')):f7 E.P o ac w (Jb3 E.P WB K J ρ0 H0 F0 w0 ρ H F w up ds x H'):=by
 have hyr:=kb8 hv hn hG (.tmp p) hp;have he':some (b8 E a (.t p),H)=some (x,H'):=he;injection he' with he';injection he' with e1 e2;subst e1 e2;refine .value (x':=ac.eval (.tmp p)) (w':=w) (by rcases ho with ho | ho<;>simp[execOp,ho]) ⟨ρ,F,W',hC,λ_ _ h=>h,hyr⟩
theorem me1{t:TypeId}{p:Nat}{y:Operand}(ho:o.op=.store t (.tmp p) y)(hp:Nat.blt p n=true)(hy:ltO n y=true)(h0:szT E.P t≠0)(he:(gb1 E a H (.bstore (szT E.P t) p (f0 y))).run=some (x,H')) :
  f7 E.P o ac w (Jb3 E.P WB K J ρ0 H0 F0 w0 ρ H F w up ds x H'):=by
 have hpr:=kb8 hv hn hG (.tmp p) hp;have hyr:=kb8 hv hn hG y hy;simp only[gb1] at he;cases hs:ic4 0 H (b8 E a (.t p)) with
 |none=>rw[hs] at he;cases he
 |some q =>
 obtain⟨id,c,g,b⟩:=q;rw[hs] at he
 simp only at he
 obtain⟨h1,h2,h3,h4,h5⟩:=Jb4 hs hpr;generalize hcs:D9 (b8 E a (f0 y))=cs at *
 cases hcc:(Nat.ble (c+szT E.P t) (len (j9 b.elems 0))&&Nat.beq (len cs) (szT E.P t)&&(Ya9 (b8 E a (f0 y))&&Ga9 Qd9 cs)) with
 |false=>rw[hcc] at he;cases he
 |true =>
 rw[hcc] at he;have he':some (a7.v (.tuple #[]),setAt H id { b with elems:=[qa9 (j9 b.elems 0) c cs] })=some (x,H'):=he
 injection he' with he';injection he' with e1 e2;subst e1 e2
 simp only[Qas,j8] at hcc;obtain⟨⟨hle,hlen⟩,hpo,hbo⟩:=hcc;have hle:=Qae hle;have hlen:=Qad hlen;rw[<- hcs] at hbo;obtain⟨k1,k2⟩:=Kd0 hyr hpo hbo;rw[hcs] at k1 k2;obtain⟨hWB,hnW,hnF,hlt,hcont⟩:=hC.srel.has id b h2 (Ua8 h4) h3
 rcases hcont with⟨_,row,vs,tt,m1,m2,m3,m4⟩|⟨t',K',El,fl,es,clk,m1,_⟩
 case inr=>exact (Ob4 h4 m1).elim
 have hrow:j9 b.elems 0=row:=by rw[m1];rfl
 rw[hrow] at hle ⊢;generalize hys:(ac.eval y).cells.toList=ys at *
 have hl2:ys.length=cs.length:=k1.symm;have hone:∀v∈ys,v.oneCell'=true:=λv hv'=>by
  obtain⟨j,hj,rfl⟩:=Qef.1 hv';have hj':j<cs.length:=by omega
  exact (k2 j _ _ (Qaa hj') (Qaa hj)).1
 have hfits:c+ys.length<=vs.size:=by omega
 have hstore:=run_storeCells_at (P:=E.P) (ρ id).blk c tt ys 0 vs w m2 (by simpa using hfits) hone
 simp only[Nat.add_zero] at hstore;obtain⟨ti,hi1,hi2⟩:=Fd4 h0;have hsz0:(ac.eval y).cells.size=ti.size:=by
  grind
 have hev:ac.eval (.tmp p)=.pointer (some ⟨(ρ id).blk,c,none⟩):=h5;have hid:=(Qab.1 h2).1;rw[B1];refine .skip (w':=w.setRow (ρ id).blk (vs.toList.take c++ys++vs.toList.drop (c+ys.length)).toArray) ?_ ?_
 ·simp[execOp,ho,hev,Instr.storeAt,Instr.sureAddr,storeVar,sizeOf,typeInfo,hi1,hsz0,hys,hstore]
 ·have hheap:=setRow_heap w (ρ id).blk vs (vs.toList.take c++ys++vs.toList.drop (c+ys.length)).toArray tt (0,0) m2;have hsize:((vs.toList.take c++ys++vs.toList.drop (c+ys.length)).toArray).size=vs.size:=by simp;omega
  have hK:=λk (hk:K k)=>hC.kept k hk
  have hnK:∀k,K k->k≠(ρ id).blk:=λk hk e=>hC.far id b h2 (Ua8 h4) h3 (e ▸ hk)
  obtain⟨c1,c2⟩:=hC.change (w':=w.setRow (ρ id).blk (vs.toList.take c++ys++vs.toList.drop (c+ys.length)).toArray) (H':=H.set id { b with elems:=[qa9 row c cs] }) (up':=up) (ρ id).blk hWB hnW hnF rfl rfl rfl (Qaf _) (by simp[World.setRow]) (λj hj=>setRow_other w _ j _ hj)
   (λcc t' fr hcc=>by rw[m2] at hcc;cases hcc;exact⟨_,hheap,hsize⟩) (by simp)
   (λid' b' hb'=>by
    by_cases e:id=id'
    ·subst e;obtain rfl:b'=b:=Qag (hb'.symm.trans h2);exact⟨{ b' with elems:=[qa9 row c cs] },by simp[hid],rfl,rfl,rfl,rfl,by rw[m1];simp,λhs0=>by rw[Ua8 h4] at hs0;cases hs0⟩
    ·exact⟨b',by rw[Qah e];exact hb',rfl,rfl,rfl,rfl,Qaf _,λ_=>rfl⟩)
   (λid' b' hb' hs' hd' hne=>by
    have e:id≠id':=λe=>hne (by rw[e])
    rw[Qah e];exact hb')
   (λhx id' b' hb' hs' hd' hblk=>by
    have e:id=id':=Qeb λhne=>by
     rw[Qah hne] at hb';exact hC.srel.apart id id' b b' h2 hb' (Ua8 h4) hs' h3 hd' hne hblk.symm
    subst e
    have:b'={ b with elems:=[qa9 row c cs] }:=by simpa [hid] using hb'.symm
    subst this;have hfit:c+cs.length<=row.length:=by omega
    refine .inl ⟨h4,_,_,tt,rfl,hheap,by rw[bb9 hfit,hsize];exact m3,λj u u' hu hu'=>?_⟩
    rw[Nb5 hfits] at hu'
    rcases oc2 hfit hu with⟨g1,g2,g3⟩|⟨g1,g3⟩
    ·rw[if_pos (by omega)] at hu'
     obtain⟨q1,q2⟩:=k2 (j-c) u u' g3 hu';exact⟨q1,hx _ _ q2⟩
    ·rw[if_neg (by omega)] at hu'
     obtain⟨q1,q2⟩:=m4 j u u' g3 hu';exact⟨q1,hx _ _ q2⟩)
   (hJ up w _ (λk hk=>setRow_other w _ k _ (hnK k hk)) hC.jot)
   (λD _ hD e=>by rw[e,m2] at hD;cases hD)
  exact⟨ρ,F,W',c1,c2,.w (.ofv _)⟩
end
section
variable{P:Program}{w:World}
def we5(P:Program)(w:World)(em:Bool)(m:Nat)(t:TypeId)(l:List (Nat×CK)):Prop :=
 ∀v:Value,(agT P t=true->v=.agg v.cells)->(agT P t=false->v.cells=#[v])->(∀p∈l,Ha3 v.cells p)->(Instr.checkKey em m t v).run P w=.ok () w
theorem we5.step {em : Bool} {m : Nat} {t : TypeId} {l : List (Nat × CK)} (h : we5 P w em m t l) (hf : Ke9 P w 0 t l ∨ True) (hu : P.underlying t ≠ none) (hone : agT P t = false → l ≠ [] ∧ ∀ p ∈ l, p.1 = 0) {xs : Array Value} {off : Nat} (hl : ∀ p ∈ l, p.1 < szT P t) (hx : ∀ p ∈ l.map fun p => (off + p.1, p.2), Ha3 xs p) :
  ∃a,(part t xs off).run P w=.ok a w/\(Instr.checkKey em m t a).run P w=.ok () w:=by
 have hx':∀p∈l,Ha3 xs (off+p.1,p.2):=λp hp=>hx _ (Qbr.2 ⟨p,hp,rfl⟩)
 obtain⟨a,a1,a2,a4,a3⟩:=ad6 (w:=w) hu hone hl hx';refine⟨a,a1,h a a2 a4 λp hp=>?_⟩
 have:=hx' p hp;unfold Ha3 at this ⊢;rw[a3 p hp];exact this
theorem dd8(em:Bool):∀(d:Nat) (t:TypeId) (l:List (Nat×CK)),da7 P d t=some l->∀m,d<=m->we5 P w em m t l
 |0,_,_,h,_,_=>by cases h
 |d+1,t,l,h,0,hm=>by omega
 |d+1,t,l,h,m+1,hm=>by
  intro v hv1 hv2 hv3;unfold da7 at h;cases hu:P.underlying t with
  |none=>simp[hu] at h
  |some u =>
  cases u with
  |int k =>
   simp only[hu] at h;injection h with h;subst h
   have hag:agT P t=false:=Vc2 (by simp[hu]) (by simp[hu])
   obtain⟨n,e1⟩:=hv3 (0,.int k) (by simp)
   rw[hv2 hag] at e1;have e1':v=.int k n:=by simpa using e1
   subst e1';simp[Instr.checkKey,run_underlying hu]
  |bool =>
   simp only[hu] at h;injection h with h;subst h
   have hag:agT P t=false:=Vc2 (by simp[hu]) (by simp[hu])
   obtain⟨n,e1⟩:=hv3 (0,.bool) (by simp)
   rw[hv2 hag] at e1;have e1':v=.bool n:=by simpa using e1
   subst e1';simp[Instr.checkKey,run_underlying hu]
  |struct fs =>
   simp only[hu] at h
   split at h
   ·cases h
   have hag:agT P t=true:=by simp[agT,hu]
   rw[hv1 hag];generalize v.cells=xs at *
   rw[Instr.checkKey];simp only[Sem.run_bind,run_underlying hu,Result.andThen_ok];rw[<- Array.forIn_toList]
   clear hu hv1 hv2 hag
   generalize fs.toList=fl at *
   induction fl generalizing l with
   |nil=>simp
   |cons f fl ih =>
    simp only[Qbo,pa3] at h
    split at h
    ·rename_i l1 l2 e1 e2;injection h with h;subst h
     split at e1
     ·cases e1
     rename_i hnm;obtain⟨l',g1,g2,g3⟩:=Ra5 e1;subst g3;have hfl:=Nb6 (w:=w) d f.type l' g1;obtain⟨a,p1,p2⟩:=(dd8 em d f.type l' g1 m (by omega)).step (w:=w) (.inr trivial) hfl.und hfl.one g2 (λp hp=>hv3 p (Qbj _ hp))
     simp only[List.forIn_cons,Sem.run_bind,hnm,ne_eq,not_false_eq_true,if_true,Result.andThen_ok,p1,p2,Sem.run_pure];exact ih l2 (λp hp=>hv3 p (Qce _ hp)) e2
    ·cases h
  |array n e =>
   simp only[hu] at h
   split at h
   case isFalse=>cases h
   rename_i hi;obtain⟨ti,hi⟩:=Qbd.1 hi;have hag:agT P t=true:=by simp[agT,hu]
   rw[hv1 hag];generalize v.cells=xs at *
   rw[Instr.checkKey];simp only[Sem.run_bind,run_underlying hu,Result.andThen_ok];simp only[Std.Legacy.Range.forIn_eq_forIn_range',Std.Legacy.Range.size,Nat.sub_zero,Nat.add_one_sub_one,Nat.div_one];rw[List.range_eq_range'] at h;have hsz:∀w:World,(sizeOf e).run P w=.ok (szT P e) w:=λw=>by simp[sizeOf,typeInfo,hi,szT]
   clear hu hv1 hv2 hag
   generalize List.range' 0 n=fl at *
   induction fl generalizing l with
   |nil=>simp
   |cons f fl ih =>
    simp only[Qbo,pa3] at h
    split at h
    ·rename_i l1 l2 e1 e2;injection h with h;subst h
     obtain⟨l',g1,g2,g3⟩:=Ra5 e1;subst g3;have hfl:=Nb6 (w:=w) d e l' g1;obtain⟨a,p1,p2⟩:=(dd8 em d e l' g1 m (by omega)).step (w:=w) (.inr trivial) hfl.und hfl.one g2 (λp hp=>hv3 p (Qbj _ hp))
     simp only[List.forIn_cons,Sem.run_bind,hsz,Result.andThen_ok,p1,p2,Sem.run_pure];exact ih l2 (λp hp=>hv3 p (Qce _ hp)) e2
    ·cases h
  |_=>simp[hu] at h
theorem Ud9{fl:List (Nat×CK)}(hk:∀p∈fl,(∃i,p.2=.int i)\/p.2=.bool){vs us:Array Value}(h1:∀p∈fl,Ha3 vs p)(h2:∀p∈fl,Ha3 us p){cs ds:List a7}(hc:∀(i:Nat) v,vs[i]?=some v->hdA (j5 cs i)=.v v)(hd:∀(i:Nat) v,us[i]?=some v->hdA (j5 ds i)=.v v) :
  fl.all (gb3 vs us)=ic3 fl cs ds:=by
 induction fl with
 |nil=>rfl
 |cons p fl ih =>
  have e:ic3 (p::fl) cs ds=(af3 p.2 (hdA (j5 cs p.1)) (hdA (j5 ds p.1))&&ic3 fl cs ds):=rfl;rw[List.all_cons,ih (λq hq=>hk q (by simp[hq])) (λq hq=>h1 q (by simp[hq])) (λq hq=>h2 q (by simp[hq])),e]
  congr 1;have g1:=h1 p (by simp)
  have g2:=h2 p (by simp)
  obtain⟨n,kk⟩:=p;unfold Ha3 at g1 g2;unfold gb3
  rcases hk (n,kk) (by simp) with⟨i,hi⟩|hi
  ·simp only at hi;subst hi
   obtain⟨m,hm⟩:=g1;obtain⟨m',hm'⟩:=g2
   simp only at hm hm' ⊢
   rw[hc n _ hm,hd n _ hm',hm,hm'];rfl
  ·simp only at hi;subst hi
   obtain⟨m,hm⟩:=g1;obtain⟨m',hm'⟩:=g2
   simp only at hm hm' ⊢
   rw[hc n _ hm,hd n _ hm',hm,hm'];rfl
theorem we6{ks:Array Value}{r:List a7}(i:Nat)(v:Value)(h:ks[i]?=some v):hdA (j5 (ks.toList.map .v++r) i)=.v v:=by
 rw[sc3]
 grind
theorem df2{ks:Array Value}(i:Nat)(v:Value)(h:ks[i]?=some v):hdA (j5 (ks.toList.map .v) i)=.v v:=by
 have:=we6 (r:=[]) i v h
 simp_all
section
variable{K:TypeId}{fl:List (Nat×CK)}{kl:Nat}(hag:agT P K=true)(hf:da7 P 9 K=some fl)
include hag hf
theorem df3{ks us:Array Value}(h1:∀p∈fl,Ha3 ks p)(h2:∀p∈fl,Ha3 us p):(Op.equal K (.agg ks) (.agg us)).run P w=.ok (fl.all (gb3 ks us)) w :=
 (Nb6 (w:=w) (9+9991) K fl (oc5 hf 9991)).eq (.agg ks) (.agg us) (λ_=>rfl) (λ_=>rfl) (λh=>by rw[hag] at h;cases h) (λh=>by rw[hag] at h;cases h) h1 h2
theorem Kd1{ks:Array Value}(h1:∀p∈fl,Ha3 ks p):∀(es:List MapEntry) (rows:List (List a7)) (i:Nat),es.length=rows.length->(∀(j:Nat) r e,rows[j]?=some r->es[j]?=some e->dd4 fl kl r e) ->
  ((Instr.findAsking K (.agg ks) es i).run P w=.ok none w/\Mc1 fl (ks.toList.map .v) rows=none/\∀new,gb0 fl (ks.toList.map .v) new rows=rows++[new]) \/
  (∃j e r,(Instr.findAsking K (.agg ks) es i).run P w=.ok (some (i+j,e.val)) w/\es[j]?=some e/\rows[j]?=some r/\Mc1 fl (ks.toList.map .v) rows=some r/\(∀new,gb0 fl (ks.toList.map .v) new rows=rows.set j new)/\∃us,e.key=.agg us/\fl.all (gb3 ks us)=true)
 |[],[],i,_,_=>.inl ⟨by simp[Instr.findAsking],rfl,λnew=>rfl⟩
 |[],r::rows,i,hl,_=>by simp at hl
 |e::es,[],i,hl,_=>by simp at hl
 |e::es,r::rows,i,hl,hr=>by
  obtain⟨us,v,g1,g2,g3,g4,g5⟩:=hr 0 r e rfl rfl;have hk:=qb3 9 K fl hf;have he:=df3 (w:=w) hag hf h1 g5;have hq:fl.all (gb3 ks us)=ic3 fl (ks.toList.map .v) r:=by
   rw[g1];exact Ud9 hk h1 g5 df2 we6
  have eR:Mc1 fl (ks.toList.map .v) (r::rows)=Bool.rec (motive:=λ_=>Option (List a7)) (Mc1 fl (ks.toList.map .v) rows) (some r) (ic3 fl (ks.toList.map .v) r):=rfl
  have eU:∀new,gb0 fl (ks.toList.map .v) new (r::rows)=Bool.rec (motive:=λ_=>List (List a7)) (r::gb0 fl (ks.toList.map .v) new rows) (new::rows) (ic3 fl (ks.toList.map .v) r):=λ_=>rfl
  cases hb:fl.all (gb3 ks us) with
  |true =>
   rw[hb] at he;rw[hb] at hq;refine .inr ⟨0,e,r,by simp[Instr.findAsking,g3,he],rfl,rfl,by rw[eR,<- hq],λnew=>by rw[eU,<- hq];rfl,us,g3,hb⟩
  |false =>
   rw[hb] at he;rw[hb] at hq
   rcases Kd1 h1 es rows (i+1) (by simpa using hl) (λj r' e' hj hj'=>hr (j+1) r' e' (by simpa using hj) (by simpa using hj')) with⟨k1,k2,k3⟩|⟨j,e',r',k1,k2,k3,k4,k5,k6⟩
   ·refine .inl ⟨by simp[Instr.findAsking,g3,he,k1],by rw[eR,<- hq];exact k2,λnew=>by rw[eU,<- hq];show r::gb0 _ _ _ _=_;rw[k3 new];rfl⟩
   ·refine .inr ⟨j+1,e',r',by simp[Instr.findAsking,g3,he,k1,Qal,Nat.add_comm 1 j],by simpa using k2,by simpa using k3,by rw[eR,<- hq];exact k4,λnew=>by rw[eU,<- hq];show r::gb0 _ _ _ _=_;rw[k5 new];rfl,k6⟩
end
end
def Yb2(fl:List (Nat×CK))(kl:Nat):Bool:=(List.range kl).all λi=>fl.any λp=>Nat.beq p.1 i
def we7(P:Program)(t:TypeId):Bool:=match P.info? t with
 |some i=>match i.zero with
  |some (.bool b)=>!b
  |_=>false
 |none=>false
theorem sd4{fl:List (Nat×CK)}{kl i:Nat}(h:Yb2 fl kl=true)(hi:i<kl):∃p∈fl,p.1=i:=by
 unfold Yb2 at h
 simp_all
section
variable{WB K:Nat->Prop}{J:List Value->World->Prop}{ρ ρ0:Rho}{H H0 H':List b7}{F F0:Fz}{w w0 w':World}{W':Nat->Prop}{up:List Value}{E:Env}{a:List a7}{ac:Act}{x:a7}{o:Oper}
theorem me2{x x':Value}(h:XW ρ H F w (.v x) x'):x'=x:=by
 cases h with
 |w h=>exact V8 h
 |c h=>cases h with
  |n h=>exact V8 (.val (.cell h))
theorem we8{fl:List (Nat×CK)}{kl:Nat}{ks:List a7}{v:Value}(hcov:Yb2 fl kl=true)(hk:∀p∈fl,(∃i,p.2=.int i)\/p.2=.bool)(hx:XW ρ H F w (.agg ks) v)(hlen:ks.length=kl)(hok:Qd8 fl ks=true) :
  ∃vs:Array Value,v=.agg vs/\ks=vs.toList.map .v/\vs.size=kl/\∀p∈fl,Ha3 vs p:=by
 have hx':C9 ρ (i6 H) F w (.agg ks) v:=by
  cases hx with
  |w h=>exact h
  |c h=>cases h with
   |n h=>exact .val (.cell h)
 obtain⟨vs,rfl,hl,hr⟩:=qa3 hx';have h1:=ad8 hok;have k1:∀p∈fl,Ha3 vs p:=λp hp=>(Wb2 hl hr (hk p hp) (h1 p hp)).1
 refine⟨vs,rfl,List.ext_getElem (by simpa using hl) λi hi hi'=>?_,by rw[<- hl];exact hlen,k1⟩
 obtain⟨p,hp,rfl⟩:=sd4 hcov (hlen ▸ hi);have h2:=h1 p hp;rw[sc3,Qaa hi] at h2;simp only[Option.getD_some] at h2;have hi2:p.1<vs.size:=hl ▸ hi;have hrel:=hr p.1 _ _ (Qaa hi) (Qac hi2);have hv:∃u,ks[p.1]=.v u:=by
  rcases hk p hp with⟨q,e⟩|e<;>rw[e] at h2<;>revert h2<;>cases ks[p.1]<;>intro h2<;>first|exact⟨_,rfl⟩|cases h2
 obtain⟨u,hu⟩:=hv;rw[hu] at hrel ⊢
 have:=V8 (.val (.cell hrel))
 simp[this]
theorem we9(m:Nat)(k:IntKind)(a:Int):Instr.sameBits m (.int k a) (.int k a)=true:=by cases m<;>simp[Instr.sameBits]
theorem me3(m:Nat)(a:Bool):Instr.sameBits m (.bool a) (.bool a)=true:=by cases m<;>simp[Instr.sameBits]
theorem me4{fl:List (Nat×CK)}{kl m:Nat}{ks us:Array Value}(hcov:Yb2 fl kl=true)(hk:∀p∈fl,(∃i,p.2=.int i)\/p.2=.bool)(h1:ks.size=kl)(h2:us.size=kl)(a1:∀p∈fl,Ha3 ks p)(a2:∀p∈fl,Ha3 us p)(he:fl.all (gb3 ks us)=true) :
  Instr.sameBits (m+1) (.agg us) (.agg ks)=true:=by
 rw[Instr.sameBits];rw[Qas];refine⟨by simp[h1,h2],?_⟩
 rw[Qcb];intro q hq;obtain⟨i,hi,hq⟩:=Qef.1 hq;rw[List.getElem_zip] at hq;have hi':i<kl:=by rw[List.length_zip,Array.length_toList,Array.length_toList] at hi;omega
 obtain⟨p,hp,rfl⟩:=sd4 hcov hi';have e:=Qcb.1 he p hp;have b1:=a1 p hp;have b2:=a2 p hp;have g1:ks[p.1]?=some (ks[p.1]'(by omega)):=Qac _
 have g2:us[p.1]?=some (us[p.1]'(by omega)):=Qac _
 rw[<- hq];simp only[Array.getElem_toList];unfold Ha3 at b1 b2;unfold gb3 at e
 rcases hk p hp with⟨k,hkk⟩|hkk
 ·rw[hkk] at b1 b2;obtain⟨n,b1⟩:=b1;obtain⟨n',b2⟩:=b2;rw[b1,b2] at e;have e:n=n':=by simpa using e
  subst e;rw[g1] at b1;rw[g2] at b2;rw[Qag b1,Qag b2];exact we9 _ _ _
 ·rw[hkk] at b1 b2;obtain⟨n,b1⟩:=b1;obtain⟨n',b2⟩:=b2;rw[b1,b2] at e;have e:n=n':=by simpa using e
  subst e;rw[g1] at b1;rw[g2] at b2;rw[Qag b1,Qag b2];exact me3 _ _
theorem Yb3{k:Nat}{es:Array MapEntry}{clk:Nat}(P:Program)(h:w.heap[k]?=some (.map es clk)):(getObj k).run P w=.ok (.map es clk) w:=by simp[getObj,Sem.run,h]
theorem Yb4{k:Nat}{es:Array MapEntry}{clk:Nat}(P:Program)(o:Obj)(h:w.heap[k]?=some (.map es clk)):(setObj k o).run P w=.ok () (w.putObj k o):=by simp[setObj,Sem.run,h,World.putObj]
theorem Nc0{P:Program}{t:TypeId}{fl:List (Nat×CK)}{kl:Nat}(hag:agT P t=true)(hf:da7 P 9 t=some fl){ks:Array Value}(h1:∀p∈fl,Ha3 ks p)(es:List MapEntry)(rows:List (List a7))(hl:es.length=rows.length)(hr:∀(j:Nat) r e,rows[j]?=some r->es[j]?=some e->dd4 fl kl r e) :
  ((Instr.findKey t (.agg ks) es).run P w=.ok none w/\Mc1 fl (ks.toList.map .v) rows=none/\∀new,gb0 fl (ks.toList.map .v) new rows=rows++[new]) \/
  (∃j e r,(Instr.findKey t (.agg ks) es).run P w=.ok (some (j,e.val)) w/\es[j]?=some e/\rows[j]?=some r/\Mc1 fl (ks.toList.map .v) rows=some r/\(∀new,gb0 fl (ks.toList.map .v) new rows=rows.set j new)/\∃us,e.key=.agg us/\fl.all (gb3 ks us)=true):=by
 have hu:∃d,P.underlying t=some d/\∀e es i,Instr.findNow d (.agg ks) (e::es) i=none:=by
  unfold agT at hag
  split at hag
  ·rename_i fs h;exact⟨_,h,λe es i=>rfl⟩
  ·rename_i n e h;exact⟨_,h,λe es i=>rfl⟩
  ·cases hag
 obtain⟨d,hd,hnow⟩:=hu
 have:=Kd1 (w:=w) (kl:=kl) hag hf h1 es rows 0 hl hr
 have e0:(Instr.findKey t (.agg ks) es).run P w=(Instr.findAsking t (.agg ks) es 0).run P w:=by
  unfold Instr.findKey;simp only[Sem.run_bind,run_underlying hd,Result.andThen_ok];cases es with
  |nil=>simp[Instr.findNow,Instr.findAsking]
  |cons e es=>rw[hnow]
 rw[e0];simpa using this
section
variable{ds:List Deferred}{n:Nat}(hC:C2 E.P WB K J ρ0 H0 F0 w0 H ds w ρ F W' up)(hJ:Xb9 K J)
include hC hJ
theorem xe0{t:TypeId}{kt el:TypeId}{fl:List (Nat×CK)}(ho:o.op=.makeMap t none)(hu:E.P.underlying t=some (.map kt el))(hf:da7 E.P 9 kt=some fl)(he:(gb1 E a H (.mmake t)).run=some (x,H')) :
  f7 E.P o ac w (Jb3 E.P WB K J ρ0 H0 F0 w0 ρ H F w up ds x H'):=by
 have he':some (a7.ptr (len H) 0 0 0,rc7 H (t+1) [])=some (x,H'):=he;injection he' with he';injection he' with e1 e2;subst e1 e2
 rw[j8];obtain⟨c1,c2,c3,c4⟩:=hC.alloc hJ (.map #[] 0);have hap:∀(id:Nat) b,H[id]?=some b->A9 b=true->b.dead=false->(ρ id).blk≠w.heap.size:=λid b hb hs hd=>Qan (hC.srel.has id b hb hs hd).2.2.2.1
 rw[Jd9];have hnew:(w.alloc (.map #[] 0)).heap[w.heap.size]?=some (.map #[] 0):=World.alloc_heap_new w _;refine .value (x':=.map (some w.heap.size)) (w':=w.alloc (.map #[] 0)) (by simp[execOp,ho,Instr.makeMap,run_newObj_alloc]) ?_
 obtain⟨d1,d2⟩:=c1.adopt w.heap.size 0 c3 (λh=>h.2 rfl) (λo hf=>c4 o hf) (by simp) hap (λhk=>Nat.lt_irrefl _ (hC.kept _ hk).2) { et:=t+1,es:=0,elems:=[],own:=true,dead:=false,g:=0 } (Za7 (t:=t) ⟨rfl,rfl⟩) rfl
  (.inr ⟨t,kt,el,fl,#[],0,⟨rfl,rfl⟩,hu,hf,hnew,rfl,λi r e hr=>by simp at hr⟩)
 refine⟨_,F,_,d1,λx x' hx=>d2 _ _ (c2 _ _ hx),.c ?_⟩
 have hρn:(ρnew ρ H ⟨w.heap.size,0,0⟩ H.length).blk=w.heap.size:=by simp[ρnew]
 have:=XC.map (ρ:=ρnew ρ H ⟨w.heap.size,0,0⟩) (F:=F) (w:=w.alloc (.map #[] 0)) H.length 0 0 { et:=t+1,es:=0,elems:=[],own:=true,dead:=false,g:=0 } t (H:=H++[{ et:=t+1,es:=0,elems:=[],own:=true,dead:=false,g:=0 }]) (by simp) rfl ⟨rfl,rfl⟩
 rwa [hρn] at this
variable(hv:VR ρ H F w a (ac.tmps.toList++up))(hn:ac.tmps.size=n)(hG:GOk E F w)
include hv hn hG
omit hJ in
theorem xe1{t:TypeId}{kt el:TypeId}{fl:List (Nat×CK)}{m:Nat}{y:Operand}(ho:o.op=.lookup t (.tmp m) y false)(hm:Nat.blt m n=true)(hy:ltO n y=true)(hu:E.P.underlying t=some (.map kt el))(hag:agT E.P kt=true)(hf:da7 E.P 9 kt=some fl)(hcov:Yb2 fl (szT E.P kt)=true)(hz:we7 E.P el=true)
  (he:(gb1 E a H (.mlook t (szT E.P kt) fl m (f0 y))).run=some (x,H')) :
  f7 E.P o ac w (Jb3 E.P WB K J ρ0 H0 F0 w0 ρ H F w up ds x H'):=by
 have hmr:=kb8 hv hn hG (.tmp m) hm;have hyr:=kb8 hv hn hG y hy;have hev:(ac.eval (.tmp m))=ac.tmps.getD m undef:=rfl;simp only[gb1] at he;have hcA:f0 (.tmp m)=.t m:=rfl;rw[hcA] at hmr;cases hs:ic4 (t+1) H (b8 E a (.t m)) with
 |none=>rw[hs] at he;cases he
 |some q =>
 obtain⟨id,c,g,b⟩:=q;rw[hs] at he
 simp only at he
 obtain⟨h1,h2,h3,h4,h5⟩:=sd3 hs hmr
 revert he hyr
 generalize b8 E a (f0 y)=ya;intro hyr he
 split at he
 case h_2=>cases he
 ·rename_i ks;obtain⟨hgd,he⟩:=DT.run_guard_some he;have he:some (a7.v (.bool (Ib4 (szT E.P kt) fl ks b.elems)),H)=some (x,H'):=he;rw[Qas,j8] at hgd;obtain⟨vs,e1,e2,e3,e4⟩:=we8 hcov (qb3 9 kt fl hf) hyr (Qad hgd.1) hgd.2;obtain⟨rfl,rfl⟩:x=a7.v (.bool (Ib4 (szT E.P kt) fl ks b.elems))/\H=H':=by injection he with he;injection he with e1 e2;exact⟨e1.symm,e2⟩
  subst e2;obtain⟨_,_,_,_,hcont⟩:=hC.srel.has id b h2 (Za7 h4) h3
  rcases hcont with⟨hb,_⟩|⟨t',K',El,fl',es,clk,m1,m2,m3,m4,m5,m6⟩
  ·exact (Ob4 hb h4).elim
  have ht:t'=t:=Nat.succ.inj (m1.2.symm.trans h4.2);subst ht;rw[hu] at m2;injection m2 with m2;injection m2 with q1 q2;subst q1 q2
  rw[hf] at m3;injection m3 with m3;subst m3
  have hlen:es.toList.length=b.elems.length:=by rw[Array.length_toList];exact m5.symm
  have hrow:∀(j:Nat) r e,b.elems[j]?=some r->es.toList[j]?=some e->dd4 fl (szT E.P kt) r e:=λj r e hr he=>m6 j r e hr (by simpa using he)
  have hfind:=Nc0 (w:=w) (kl:=szT E.P kt) hag hf e4 es.toList b.elems hlen hrow;have hck:(Instr.checkKey es.isEmpty 10000 kt (.agg vs)).run E.P w=.ok () w:=dd8 es.isEmpty 9 kt fl hf 10000 (by decide) (.agg vs) (λ_=>rfl) (λh=>by rw[hag] at h;cases h) e4
  have hgo:(getObj (ρ id).blk).run E.P w=.ok (.map es clk) w:=Yb3 E.P m4
  rcases hfind with⟨k1,k2,_⟩|⟨j,e,r,k1,k2,k3,k4,_,_⟩
  ·have hz' : (zeroValue el).run E.P w = .ok (.bool false) w := by
    unfold we7 at hz
    split at hz
    ·rename_i i hi
     split at hz
     ·rename_i bb hbb;cases bb with
      |true=>cases hz
      |false=>simp[zeroValue,typeInfo,hi,hbb]
     ·cases hz
    ·cases hz
   refine .value (x':=.bool false) (w':=w) ?_ ⟨ρ,F,W',hC,λ_ _ h=>h,?_⟩
   ·simp[execOp,ho,Instr.lookup,run_underlying hu,h5,e1,hgo,hck,k1,hz']
   ·unfold Ib4;rw[k2];exact .w (.val (.cell (.v _)))
  ·obtain⟨us,bb,g1,g2,g3,g4,g5⟩:=hrow j r e k3 k2;refine .value (x':=.bool bb) (w':=w) ?_ ⟨ρ,F,W',hC,λ_ _ h=>h,?_⟩
   ·simp[execOp,ho,Instr.lookup,run_underlying hu,h5,e1,hgo,hck,k1,g4]
   ·unfold Ib4;rw[k4]
    have:toB (hdA (j5 r (szT E.P kt)))=bb:=by
     rw[sc3,g1,<- g2];rw[Qba (by simp)]
     simp[toB]
    show XW ρ H F w (.v (.bool (toB (hdA (j5 r (szT E.P kt)))))) _;rw[this];exact .w (.val (.cell (.v _)))
theorem Ne0{t:TypeId}{kt el:TypeId}{fl:List (Nat×CK)}{m:Nat}{y z:Operand}(ho:o.op=.mapUpdate t (.tmp m) y z)(hm:Nat.blt m n=true)(hy:ltO n y=true)(hz:ltO n z=true)(hu:E.P.underlying t=some (.map kt el))(hag:agT E.P kt=true)(hf:da7 E.P 9 kt=some fl)(hcov:Yb2 fl (szT E.P kt)=true)
  (he:(gb1 E a H (.mupd t (szT E.P kt) fl m (f0 y) (f0 z))).run=some (x,H')) :
  f7 E.P o ac w (Jb3 E.P WB K J ρ0 H0 F0 w0 ρ H F w up ds x H'):=by
 have hmr:=kb8 hv hn hG (.tmp m) hm;have hyr:=kb8 hv hn hG y hy;have hzr:=kb8 hv hn hG z hz;simp only[gb1] at he;have hcA:f0 (.tmp m)=.t m:=rfl;rw[hcA] at hmr;cases hs:ic4 (t+1) H (b8 E a (.t m)) with
 |none=>rw[hs] at he;cases he
 |some q =>
 obtain⟨id,c,g,b⟩:=q;rw[hs] at he
 simp only at he
 obtain⟨h1,h2,h3,h4,h5⟩:=sd3 hs hmr
 revert he hyr hzr
 generalize b8 E a (f0 y)=ya;generalize b8 E a (f0 z)=za;intro hyr hzr he
 split at he
 case h_2=>cases he
 rename_i ks bv;obtain⟨hgd,he⟩:=DT.run_guard_some he;have he:some (a7.v (.tuple #[]),setAt H id { b with elems:=gb0 fl ks (app ks [.v (.bool bv)]) b.elems })=some (x,H'):=he
 rw[Qas,j8] at hgd;have hkinds:=qb3 9 kt fl hf;obtain⟨vs,e1,e2,e3,e4⟩:=we8 hcov hkinds hyr (Qad hgd.1) hgd.2;have e5:=me2 hzr;injection he with he;injection he with q1 q2
 subst q1 q2 e2;obtain⟨hWB,hnW,hnF,hlt,hcont⟩:=hC.srel.has id b h2 (Za7 h4) h3
 rcases hcont with⟨hb,_⟩|⟨t',K',El,fl',es,clk,m1,m2,m3,m4,m5,m6⟩
 ·exact (Ob4 hb h4).elim
 have ht:t'=t:=Nat.succ.inj (m1.2.symm.trans h4.2);subst ht;rw[hu] at m2;injection m2 with m2;injection m2 with q1 q2;subst q1 q2
 rw[hf] at m3;injection m3 with m3;subst m3
 have hlen:es.toList.length=b.elems.length:=by rw[Array.length_toList];exact m5.symm
 have hrow:∀(j:Nat) r e,b.elems[j]?=some r->es.toList[j]?=some e->dd4 fl (szT E.P kt) r e:=λj r e hr he=>m6 j r e hr (by simpa using he)
 have hfind:=Nc0 (w:=w) (kl:=szT E.P kt) hag hf e4 es.toList b.elems hlen hrow;have hck:(Instr.checkKey false 10000 kt (.agg vs)).run E.P w=.ok () w:=dd8 false 9 kt fl hf 10000 (by decide) (.agg vs) (λ_=>rfl) (λh=>by rw[hag] at h;cases h) e4
 have hgo:(getObj (ρ id).blk).run E.P w=.ok (.map es clk) w:=Yb3 E.P m4;have hnK:∀k,K k->k≠(ρ id).blk:=λk hk e=>hC.far id b h2 (Za7 h4) h3 (e ▸ hk)
 have hid:=(Qab.1 h2).1;have hnewrow:∀us:MapEntry,dd4 fl (szT E.P kt) (app (vs.toList.map .v) [.v (.bool bv)]) { us with key:=.agg vs,val:=.bool bv }:=λus=>⟨vs,bv,by rw[J0],e3,rfl,rfl,e4⟩
 have hfin : ∀ (es' : Array MapEntry) (clk' : Nat), (gb0 fl (vs.toList.map .v) (app (vs.toList.map .v) [.v (.bool bv)]) b.elems).length = es'.size → b.elems.length ≤ es'.size → (∀ (i : Nat) r e, (gb0 fl (vs.toList.map .v) (app (vs.toList.map .v) [.v (.bool bv)]) b.elems)[i]? = some r → es'[i]? = some e → dd4 fl (szT E.P kt) r e) →
   Jb3 E.P WB K J ρ0 H0 F0 w0 ρ H F w up ds (.v (.tuple #[])) (H.set id { b with elems:=gb0 fl (vs.toList.map .v) (app (vs.toList.map .v) [.v (.bool bv)]) b.elems }) (.tuple #[]) (w.putObj (ρ id).blk (.map es' clk')):=λes' clk' hl1 hl2 hrows=>by
  obtain⟨c1,c2⟩:=hC.change (w':=w.putObj (ρ id).blk (.map es' clk')) (H':=H.set id { b with elems:=gb0 fl (vs.toList.map .v) (app (vs.toList.map .v) [.v (.bool bv)]) b.elems }) (up':=up) (ρ id).blk hWB hnW hnF rfl rfl rfl (Qaf _) (by simp) (λj hj=>World.putObj_heap_other hj)
   (λcc t' fr hcc=>by rw[m4] at hcc;cases hcc) (by simp)
   (λid' b' hb'=>by
    by_cases e:id=id'
    ·subst e;obtain rfl:b'=b:=Qag (hb'.symm.trans h2);exact⟨{ b' with elems:=gb0 fl (vs.toList.map .v) (app (vs.toList.map .v) [.v (.bool bv)]) b'.elems },by simp[hid],rfl,rfl,rfl,rfl,by simp only;rw[hl1];exact hl2,λhs0=>by rw[Za7 h4] at hs0;cases hs0⟩
    ·exact⟨b',by rw[Qah e];exact hb',rfl,rfl,rfl,rfl,Qaf _,λ_=>rfl⟩)
   (λid' b' hb' hs' hd' hne=>by
    have e:id≠id':=λe=>hne (by rw[e])
    rw[Qah e];exact hb')
   (λhx id' b' hb' hs' hd' hblk=>by
    have e:id=id':=Qeb λhne=>by
     rw[Qah hne] at hb';exact hC.srel.apart id id' b b' h2 hb' (Za7 h4) hs' h3 hd' hne hblk.symm
    subst e
    have:b'={ b with elems:=gb0 fl (vs.toList.map .v) (app (vs.toList.map .v) [.v (.bool bv)]) b.elems }:=by simpa [hid] using hb'.symm
    subst this;exact .inr ⟨t',kt,el,fl,es',clk',h4,hu,hf,World.putObj_heap_same hlt,hl1,hrows⟩)
   (hJ up w _ (λk hk=>World.putObj_heap_other (hnK k hk)) hC.jot)
   (λD _ hD e=>by rw[e,m4] at hD;cases hD)
  exact⟨ρ,F,W',c1,c2,.w (.ofv _)⟩
 rw[B1]
 rcases hfind with⟨k1,_,k3⟩|⟨j,e,r,k1,k2,k3,k4,k5,us,k6,k7⟩
 ·have hso:=Yb4 E.P (.map (es.push { key:=.agg vs,val:=.bool bv,born:=clk }) (clk+1)) m4;refine .skip (w':=w.putObj (ρ id).blk (.map (es.push { key:=.agg vs,val:=.bool bv,born:=clk }) (clk+1))) ?_ (hfin _ _ ?_ ?_ ?_)
  ·simp[execOp,ho,Instr.mapUpdate,run_underlying hu,h5,e1,e5,hgo,hck,k1,hso]
  ·rw[k3];simp[m5]
  ·simp[m5]
  ·intro i r e hr he;rw[k3] at hr;by_cases hi:i<b.elems.length
   ·grind
   ·rw[Qba (by omega)] at hr
    have hi0:i-b.elems.length=0:=by
     grind
    rw[hi0] at hr;rw[Qau,if_pos (by omega)] at he
    simp at hr he
    subst hr he;exact hnewrow { key:=.agg vs,val:=.bool bv,born:=clk }
 ·have k2':es[j]?=some e:=by simpa using k2
  obtain⟨us',bb,g1,g2,g3,g4,g5⟩:=hrow j r e k3 k2;rw[k6] at g3;injection g3 with g3;subst g3;have hsame:Instr.sameBits 10000 (.agg us) (.agg vs)=true:=me4 (m:=9999) hcov hkinds e3 g2 e4 g5 k7;have hso:=Yb4 E.P (.map (es.modify j λe=>{ e with key:=.agg vs,val:=.bool bv }) clk) m4
  refine .skip (w':=w.putObj (ρ id).blk (.map (es.modify j λe=>{ e with key:=.agg vs,val:=.bool bv }) clk)) ?_ (hfin _ _ ?_ ?_ ?_)
  ·simp[execOp,ho,Instr.mapUpdate,run_underlying hu,h5,e1,e5,hgo,hck,k1,k2',k6,Instr.keyThatStays,hsame,hso]
  ·rw[k5];simp[m5]
  ·simp[m5]
  ·intro i r' e' hr he;rw[k5] at hr;rw[Qde] at he;by_cases hi:j=i
   ·subst hi;rw[if_pos rfl,k2'] at he;have hj:=(Qab.1 k3).1;rw[Qby hj] at hr
    simp at hr he
    subst hr he;exact hnewrow e
   ·rw[if_neg hi] at he;rw[Qah hi] at hr;exact m6 i r' e' hr he
end
end
def Pu{α:Type}(s:Sem α):Prop:=∀P w r w',s.run P w=.ok r w'->w'=w
def Nv{α:Type}(s:Sem α):Prop:=∀P w r w',s.run P w≠.ok r w'
theorem Nv.pu{α:Type}{s:Sem α}(h:Nv s):Pu s:=λP w r w' e=>absurd e (h P w r w')
theorem wa3{α:Type}(x:α):Pu (Pure.pure x:Sem α):=λP w r w' e=>by
 simp only[Sem.run_pure] at e;injection e with _ e;exact e.symm
theorem Vc6{α β:Type}{x:Sem α}{f:α->Sem β}{P:Program}{w w':World}{r:β}(e:(x >>= f).run P w=.ok r w'):∃a w1,x.run P w=.ok a w1/\(f a).run P w1=.ok r w':=by
 rw[Sem.run_bind] at e;cases h:x.run P w with
 |ok a w1=>rw[h] at e;exact⟨a,w1,rfl,e⟩
 |halt c w1=>rw[h] at e;cases e
theorem wa4{α β:Type}{x:Sem α}{f:α->Sem β}(hx:Pu x)(hf:∀a,Pu (f a)):Pu (x >>= f):=λP w r w' e=>by
 obtain⟨a,w1,h1,h2⟩:=Vc6 e;rw[hf a P w1 r w' h2,hx P w a w1 h1]
theorem Vc7{α β:Type}{x:Sem α}{f:α->Sem β}(hf:∀a,Nv (f a)):Nv (x >>= f):=λP w r w' e=>by
 obtain⟨a,w1,h1,h2⟩:=Vc6 e;exact hf a P w1 r w' h2
theorem Vc8{α:Type}(h:Halt):Nv (.halt h:Sem α):=λP w r w' e=>by cases e
theorem Ua9{α:Type}(s:String):Nv (stuck s:Sem α):=Vc8 _
theorem dd9{α:Type}(u:Unsupported):Nv (unsupported u:Sem α):=Vc8 _
theorem Ob5:Pu program:=λP w r w' e=>by
 have e:(Result.ok P w)=.ok r w':=e;injection e with _ e;exact e.symm
theorem de7(a:Addr)(m:Mode):Pu (load a m):=λP w r w' e=>by
 simp only[load,Sem.run] at e
 split at e
 ·injection e with _ e;exact e.symm
 ·split at e
  ·injection e with _ e;exact e.symm
  ·cases e
theorem Kd2(k:Nat):Pu (shape k):=λP w r w' e=>by
 simp only[shape,Sem.run] at e;injection e with _ e;exact e.symm
theorem sd5(k:Nat):Pu (getObj k):=λP w r w' e=>by
 simp only[getObj,Sem.run] at e
 split at e
 ·cases e
 ·injection e with _ e;exact e.symm
 ·cases e
theorem uc5(t:TypeId):Pu (underlying t):=wa4 Ob5 λp=>by
 split
 ·exact wa3 _
 ·exact (Ua9 _).pu
theorem Ne1(t:TypeId):Pu (typeInfo t):=wa4 Ob5 λp=>by
 split
 ·exact wa3 _
 ·exact (Ua9 _).pu
theorem zd0(t:TypeId):Pu (sizeOf t):=wa4 (Ne1 t) λ_=>wa3 _
theorem df4(t:TypeId):Pu (isAgg t):=wa4 (uc5 t) λ_=>by split<;>exact wa3 _
theorem zd1(v:Value):Pu (Instr.sureAddr v):=by
 unfold Instr.sureAddr;split
 ·exact wa3 _
 ·exact (Ua9 _).pu
theorem uc6(a:Addr):∀(n i:Nat) (acc:Array Value),Pu (loadCellsFrom a i n acc)
 |0,_,_=>wa3 _
 |n+1,i,acc=>wa4 (de7 _ _) λ_=>uc6 a n (i+1) _
theorem zd2(a:Addr)(n:Nat):Pu (Go.loadCells a n):=uc6 a n 0 #[]
theorem Vd0(t:TypeId)(a:Addr):Pu (loadVar t a):=wa4 (df4 t) λb=>by
 cases b
 ·exact de7 _ _
 ·refine wa4 (zd0 t) λn=>?_
  exact wa4 (zd2 _ _) λ_=>wa3 _
theorem me5(t:TypeId)(v:Value):Pu (Instr.loadAt t v):=wa4 (zd1 v) λa=>Vd0 t a
theorem me6(a:Addr):Pu (noView a):=by
 unfold noView
 repeat' (first | exact wa3 _ | exact Kd2 _ | exact (Ua9 _).pu | exact (dd9 _).pu | refine wa4 ?_ (λ_=>?_) | split | exact Ob5 | exact sd5 _)
theorem me7(a:Addr):Pu (byteOf a):=by
 unfold byteOf
 repeat' (first | exact wa3 _ | exact Kd2 _ | exact me6 _ | exact (Ua9 _).pu | exact Ob5 | refine wa4 ?_ (λ_=>?_) | split | dsimp only)
theorem me8(a:Addr)(c b:Nat):Pu (partAt a c b):=by
 unfold partAt
 repeat' (first | exact wa3 _ | exact me7 _ | refine wa4 ?_ (λ_=>?_) | split | dsimp only)
theorem Vd1(s:TypeId)(v:Value)(f:Nat):Pu (Instr.fieldAt s v f):=by
 unfold Instr.fieldAt fieldPlace
 repeat' (first | exact wa3 _ | exact uc5 _ | exact zd1 _ | exact zd0 _ | exact me8 _ _ _ | exact (Ua9 _).pu | refine wa4 ?_ (λ_=>?_) | split | dsimp only)
theorem mf2(e:RuntimeError){α:Type}:Nv (runtimePanic e:Sem α):=by
 unfold runtimePanic;refine Vc7 λp=>?_
 simp only
 split<;>first | exact Vc8 _ | exact Vc7 λ_=>Vc7 λ_=>Vc8 _
theorem mf3(k:IntKind)(x y:Int)(c:BoundsCode){α:Type}:Nv (boundsPanic k x y c:Sem α):=by
 unfold boundsPanic
 dsimp only
 split<;>exact Vc7 λ_=>mf2 _
theorem xe2(v:Value):Pu (asIntOf v):=by
 unfold asIntOf
 repeat' (first | exact wa3 _ | exact (Ua9 _).pu | exact (dd9 _).pu | split)
theorem Vd2(t:TypeId)(x v:Value):Pu (Instr.indexAt t x v):=by
 unfold Instr.indexAt
 repeat' (first | exact wa3 _ | exact xe2 _ | exact uc5 _ | exact zd1 _ | exact zd0 _ | exact (mf3 _ _ _ _).pu | exact (Ua9 _).pu | exact (dd9 _).pu | refine wa4 ?_ (λ_=>?_) | split | dsimp only)
theorem df5(a:Array TypeId)(t:TypeId)(x:Array Value):Pu (Builtin.len_ a t x):=by
 unfold Builtin.len_
 repeat' (first | exact wa3 _ | exact uc5 _ | exact sd5 _ | exact (Ua9 _).pu | refine wa4 ?_ (λ_=>?_) | split | dsimp only)
def kc0(o:Oper):Bool:=o.guard.isNone&&match o.op with
 |.move _=>true
 |.load ..=>true
 |.fieldAddr ..=>true
 |.indexAddr ..=>true
 |.makeFunc ..=>true
 |.call c=>match c.callee with
  |.builtin .len=>true
  |_=>false
 |_=>false
theorem xe3{o:Oper}(h:kc0 o=true){r:Operand->Value}{P:Program}{w w':World}{x:Next}(e:(execOp r o).run P w=.ok x w'):(∃v,x=.value v)/\w'=w:=by
 have key:∀{s:Sem Value},Pu s->(s >>= λv=>(Pure.pure (Next.value v):Sem Next)).run P w=.ok x w'->(∃v,x=.value v)/\w'=w:=λ{s} hs e=>by
  obtain⟨a,w1,h1,h2⟩:=Vc6 e;rw[Sem.run_pure] at h2;injection h2 with h2 h3;exact⟨⟨a,h2.symm⟩,by rw[<- h3];exact hs P w a w1 h1⟩
 unfold kc0 at h;rw[Qas] at h;obtain⟨_,h⟩:=h;unfold execOp at e
 split at h
 ·rename_i ho;rw[ho] at e;simp only[Sem.run_pure] at e;injection e with e1 e2;exact⟨⟨_,e1.symm⟩,e2.symm⟩
 ·rename_i ho;rw[ho] at e;exact key (me5 _ _) e
 ·rename_i ho;rw[ho] at e;exact key (Vd1 _ _ _) e
 ·rename_i ho;rw[ho] at e;exact key (Vd2 _ _ _) e
 ·rename_i ho;rw[ho] at e;refine key (s:=Instr.makeFunc _ _ _) (wa3 _) e
 ·rename_i c ho;rw[ho] at e
  split at h
  ·rename_i hc;simp only[resolve,hc] at e;obtain⟨d,w1,h1,h2⟩:=Vc6 e;rw[Sem.run_pure] at h1;injection h1 with h1 h3;subst h1 h3;exact key (df5 _ _ _) h2
  ·cases h
 ·cases h
def opO(ops:Array Oper)(j:Nat):Oper:=ops.getD j default
def Ec8(ops:Array Oper):Bool :=
 Nat.blt 0 ops.size&&((List.range ops.size).all λj=>(D1 (opO ops j)).all λi=>Nat.blt i j) &&
 (List.range (ops.size-1)).all λj=>kc0 (opO ops j)&&((opO ops j).dst.isSome&&(((List.range j).all λi=>(opO ops i).dst != (opO ops j).dst) &&
  (((List.range ops.size).any λk=>Nat.blt j k&&(D1 (opO ops k)).contains j) &&
  (opO ops j).op.operands.toList.all λx=>match x with
   |.tmp t=>(List.range (ops.size-1)).all λi=>(opO ops i).dst != some t||(D1 (opO ops j)).contains i
   |_=>true)))
def Kd3(o:Oper):Oper:={ o with dst:=none,op:=.move (.const (.bool true)),guard:=none }
def Yb5(b:Bool)(o:Oper):Oper:=match b with
 |true=>Kd3 o
 |false=>o
def Nc1(B:Nat->Bool)(m:Nat):Nat->List Oper->List Oper
 |_,[]=>[]
 |k,o::r=>Yb5 (B k||Nat.ble m k) o::Nc1 B m (k+1) r
def xb0(B:Nat->Bool)(m:Nat)(ops:Array Oper):Array Oper:=⟨Nc1 B m 0 ops.toList⟩
def Ec9(o:Oper):Bool:=match o.op with
 |.select _ _=>false
 |.defer _=>false
 |_=>true
def ed0(ops:Array Oper)(j:Nat):Bool:=(List.range j).all λi=>(D1 (opO ops j)).contains i
def I1(ops:Array Oper):Nat->Nat
 |0=>0
 |j+1=>match ed0 ops j with
  |true=>I1 ops j
  |false=>j+1
def xe4:Operand->Option Nat
 |.tmp t=>some t
 |_=>none
def ed1(B:Nat->Bool)(m:Nat)(ops:Array Oper):Bool :=
 Nat.ble m ops.size&&((List.range ops.size).all λj=>(D1 (opO ops j)).all λi=>Nat.blt i j) &&
 ((List.range ops.size).all λj=>Nat.blt j m||ed0 ops j) &&
 (List.range m).all λj =>
  (match B j with
   |true=>kc0 (opO ops j)&&(opO ops j).dst.isSome
   |false=>Ec9 (opO ops j)&&match (opO ops j).guard with
    |none=>true
    |some (g,_)=>Nat.blt g m&&!B g&&(List.range m).all λi=>!B i||(opO ops i).dst.isNone||(opO ops i).dst != (opO ops g).dst) &&
  (opO ops j).op.operands.toList.all λx=>match xe4 x with
   |some t=>(List.range m).all λi=>!B i||(opO ops i).dst != some t||(D1 (opO ops j)).contains i
   |none=>true
def uc7(pr:List Nat):Operand->Option Nat
 |.tmp p=>if pr.contains p then some p else none
 |_=>none
def xe5(pr:List Nat)(o:Oper):Bool:=match o.dst with
 |some d=>pr.contains d
 |none=>false
def Rb7(b:Bool)(x:SP):SP:=match b with
 |true=>x
 |false=>.bad
structure mf4 where
 kt:TypeId
 el:TypeId
 fl:List (Nat×CK)
def xe6(P:Program)(t:TypeId):Option mf4:=match P.underlying t with
 |some (.map kt el)=>match da7 P 9 kt with
  |some fl=>match agT P kt&&Yb2 fl (szT P kt) with
   |true=>some ⟨kt,el,fl⟩
   |false=>none
  |none=>none
 |_=>none
def cSp(P:Program)(n:Nat)(pr:List Nat)(o:Oper):Option SP :=
 match o.op with
 |.alloc t=>match xe5 pr o with
  |true=>match zeT P t with
   |some z=>some (.balloc z)
   |none=>some .bad
  |false=>none
 |.box _ x=>match xe5 pr o with
  |true=>some (Rb7 (ltO n x) (.bbox (f0 x)))
  |false=>none
 |.load t x=>match uc7 pr x with
  |some p=>some (Rb7 (Nat.blt p n&&(P.underlying t).isSome) (.bload (szT P t) (agT P t) p))
  |none=>none
 |.store t x y=>match uc7 pr x with
  |some p=>some (Rb7 (Nat.blt p n&&ltO n y&&!Nat.beq (szT P t) 0) (.bstore (szT P t) p (f0 y)))
  |none=>none
 |.fieldAddr s x f=>match uc7 pr x with
  |some p=>match P.underlying s with
   |some (.struct fs)=>match fs[f]? with
    |some fd=>some (Rb7 (Nat.blt p n&&!Nat.beq (szT P fd.type) 0) (.bfld fd.offset p))
    |none=>some .bad
   |_=>some .bad
  |none=>none
 |.move x=>match uc7 pr x with
  |some p=>some (Rb7 (Nat.blt p n) (.bmv p))
  |none=>none
 |.assign x=>match uc7 pr x with
  |some p=>some (Rb7 (Nat.blt p n) (.bmv p))
  |none=>none
 |.makeMap t none=>match xe6 P t with
  |some _=>some (.mmake t)
  |none=>some .bad
 |.lookup t (.tmp m) y false=>match xe6 P t with
  |some q=>some (Rb7 (Nat.blt m n&&ltO n y&&we7 P q.el) (.mlook t (szT P q.kt) q.fl m (f0 y)))
  |none=>some .bad
 |.mapUpdate t (.tmp m) y z=>match xe6 P t with
  |some q=>some (Rb7 (Nat.blt m n&&ltO n y&&ltO n z) (.mupd t (szT P q.kt) q.fl m (f0 y) (f0 z)))
  |none=>some .bad
 |.call c=>match c.callee with
  |.builtin .append=>match xe5 pr o with
   |true=>match c.args.toList,c.argTypes.toList with
    |[s,x],[t,u]=>match P.underlying t with
     |some (.slice e)=>some (Rb7 (Nat.blt 0 (szT P e)&&Nat.beq t u) (.old n (.apre (szT P e) (f0 s) (f0 x))))
     |_=>some .bad
    |_,_=>some .bad
   |false=>none
  |.builtin .clear=>match c.args.toList,c.argTypes.toList with
   |[x],[t]=>match P.underlying t with
    |some (.slice e)=>match zeT P e with
     |some z=>some (Rb7 (Nat.blt 0 (szT P e)) (.old n (.clr (szT P e) z (f0 x))))
     |none=>some .bad
    |_=>some .bad
   |_,_=>some .bad
  |_=>none
 |_=>none
structure Rd where
 nOut:Nat
 ps:List Nat
 asq:PC
 body:PC
abbrev HL:=List (Nat×Option (Nat×Bool))
def xe7:Option (Nat×Bool)->Option (Nat×Bool)->Bool
 |none,_=>true
 |some (d,b),some (d',b')=>Nat.beq d d'&&(b==b')
 |some _,none=>false
def xe8(S:HL)(t:Nat)(g:Option (Nat×Bool)):Bool:=S.any λp=>Nat.beq p.1 t&&xe7 p.2 g
def uc8(ops:Array Oper)(S:HL)(o:Oper):Option (List Operand):=match o.op with
 |.call c=>match c.callee with
  |.value (.tmp t)=>match ca2 ops o with
   |some g=>if xe8 S t g then some c.args.toList else none
   |none=>none
  |_=>none
 |_=>none
def ed2(ops:Array Oper)(S:HL)(o:Oper):Option (Nat×Option (Nat×Bool)):=match o.op,o.dst with
 |.move (.tmp t),some d=>match ca2 ops o with
  |some g=>if xe8 S t g then some (d,g) else none
  |none=>none
 |_,_=>none
def gOk(n:Nat):Option (Nat×Bool)->Bool
 |none=>true
 |some (d,_)=>Nat.blt d n
def dOk(n:Nat):Option Nat->Bool
 |none=>true
 |some d=>Nat.blt d n
def rmL(S:HL)(dd:List Nat):HL:=S.filter λp=>!dd.contains p.1&&match p.2 with
 |none=>true
 |some (d,_)=>!dd.contains d
def rmD(S:HL):Option Nat->HL
 |none=>S
 |some d=>rmL S [d]
def L2(l:List Oper):List Nat:=l.filterMap (·.dst)
def Fc0(p:Oper->Bool):List Oper->Nat
 |[]=>0
 |o::r=>match p o with
  |true=>Fc0 p r+1
  |false=>0
def Kd4(P:Program)(n:Nat)(pr:List Nat)(ops:Array Oper)(S:HL)(o:Oper):Bool:=(cSp P n pr o).isNone&&(uc8 ops S o).isNone&&(ed2 ops S o).isNone
def xe9(l r:HL):Bool:=l.all λp=>xe8 r p.1 p.2
def Qc0(P:Program)(n:Nat)(pr:List Nat)(yl:Option Rd)(S0:HL)(ops:Array Oper):Nat->List Oper->HL->PC
 |0,_,_=>.bad
 |_+1,[],S=>match xe9 S0 S with
  |true=>.skip
  |false=>.bad
 |f+1,o::r,S=>match uc8 ops S o with
  |some args=>match yl,ca2 ops o with
   |some rd,some g=>match gOk n g&&dOk n o.dst&&args.all (ltO n)&&Nat.beq args.length rd.ps.length with
    |true=>.seq (.round o.dst g (args.map f0) n rd.nOut rd.ps rd.asq rd.body) (Qc0 P n pr yl S0 ops f r (rmD S o.dst))
    |false=>.bad
   |_,_=>.bad
  |none=>match ed2 ops S o with
   |some (d,g)=>match Nat.blt d n with
    |true=>.seq (.mask n [d] (.ops [⟨some d,none,[],.mv (.c .unk)⟩])) (Qc0 P n pr yl S0 ops f r ((d,g)::rmL S [d]))
    |false=>.bad
   |none=>match cSp P n pr o with
    |some so=>match ca2 ops o with
     |some g=>match gOk n g&&dOk n o.dst with
      |true=>.seq (.sp o.dst g so) (Qc0 P n pr yl S0 ops f r (rmD S o.dst))
      |false=>.bad
     |none=>.bad
    |none=>match oc0 P ops (o::r.take (Fc0 (Kd4 P n pr ops S) r)) with
     |some l=>.seq (.mask n (L2 (o::r.take (Fc0 (Kd4 P n pr ops S) r))) (.ops l)) (Qc0 P n pr yl S0 ops f (r.drop (Fc0 (Kd4 P n pr ops S) r)) (rmL S (L2 (o::r.take (Fc0 (Kd4 P n pr ops S) r)))))
     |none=>.bad
def ye0(pr:List Nat)(ops:Array Oper):Bool:=ops.any λo=>match o.op with
 |.load _ x=>(uc7 pr x).isSome
 |.fieldAddr _ x _=>(uc7 pr x).isSome
 |_=>false
def Ne2(pr:List Nat)(ops:Array Oper):Bool:=ops.any λo=>match o.op with
 |.store _ x _=>(uc7 pr x).isSome
 |_=>false
def me9(pr:List Nat)(o:Oper):Bool:=o.guard.isNone&&match o.op with
 |.load _ x=>(uc7 pr x).isSome
 |.fieldAddr _ x _=>(uc7 pr x).isSome
 |_=>false
def sd6(o:Oper):Option Nat:=match o.op with
 |.load _ (.tmp p)=>some p
 |.fieldAddr _ (.tmp p) _=>some p
 |_=>none
def Ne3(n:Nat):List Oper->Bool
 |[]=>true
 |o::r=>(match sd6 o,o.dst with
  |some p,some d=>Nat.blt d n&&!(L2 (o::r)).contains p&&!(L2 r).contains d
  |_,_=>false)&&Ne3 n r
def ne0(P:Program)(n:Nat)(pr:List Nat):List Oper->PC
 |[]=>.skip
 |o::r=>match cSp P n pr o with
  |some so=>.seq (.sp o.dst none so) (ne0 P n pr r)
  |none=>.bad
def bAt(pr:List Nat)(ops:Array Oper)(m:Nat)(j:Nat):Bool:=Nat.blt j m&&me9 pr (opO ops j)
def kc1(pr:List Nat)(ops:Array Oper)(m:Nat):List Oper:=(ops.toList.take m).filter (me9 pr)
def Vd3(n:Nat)(pr:List Nat)(ops:Array Oper):Bool :=
 ed1 (bAt pr ops (I1 ops ops.size)) (I1 ops ops.size) ops&&Ne3 n (kc1 pr ops (I1 ops ops.size)) &&
 (kc1 pr ops (I1 ops ops.size)).all λo=>match sd6 o,o.dst with
  |some p,some d=>!(L2 (xb0 (bAt pr ops (I1 ops ops.size)) (I1 ops ops.size) ops).toList).contains p&&!(L2 (xb0 (bAt pr ops (I1 ops ops.size)) (I1 ops ops.size) ops).toList).contains d
  |_,_=>false
def ed3:List Nat->PC
 |[]=>.skip
 |p::r=>.seq (.adopt p) (ed3 r)
def Xe1(pr:List Nat)(l:List Oper):List Nat:=l.filterMap λo=>match o.op with
 |.alloc _=>match o.dst with
  |some p=>match pr.contains p with
   |true=>some p
   |false=>none
  |none=>none
 |_=>none
def Aa2(P:Program)(n:Nat)(pr:List Nat)(yl:Option Rd)(S0:HL)(kp:Nat->List Nat)(rf:Operand->Array Tmp->Code->Code->PC)(cur:Nat):Code->PC
 |.skip=>.skip
 |.region _ ops d=>match d with
  |false=>Qc0 P n pr yl S0 ops (ops.size+1) ops.toList S0
  |true=>match ye0 pr ops&&Ec8 ops with
   |true=>Qc0 P n pr yl S0 ops (ops.size+1) ops.toList S0
   |false=>match (ye0 pr ops||Ne2 pr ops)&&Vd3 n pr ops with
    | true => .seq (ne0 P n pr (kc1 pr ops (I1 ops ops.size)))
      (.seq (.mask n (L2 (xb0 (bAt pr ops (I1 ops ops.size)) (I1 ops ops.size) ops).toList) (Ja3 P (xb0 (bAt pr ops (I1 ops ops.size)) (I1 ops ops.size) ops)))
       (.seq (ed3 (Xe1 pr (ops.toList.take (I1 ops ops.size)))) (Qc0 P n pr yl S0 ops (ops.size+1) (ops.toList.drop (I1 ops ops.size)) (rmL S0 (L2 ops.toList)))))
    |false=>match xe9 S0 (rmL S0 (L2 ops.toList)) with
     |true=>.mask n (L2 ops.toList) (Ja3 P ops)
     |false=>.bad
 |.seq a b=>.seq (Aa2 P n pr yl S0 kp rf cur a) (Aa2 P n pr yl S0 kp rf cur b)
 |.cond c x y=>match ltO n c with
  |true=>.cond (f0 c) (Aa2 P n pr yl S0 kp rf cur x) (Aa2 P n pr yl S0 kp rf cur y)
  |false=>.bad
 |.block id c=>.block id (Aa2 P n pr yl S0 kp rf id c)
 |.loop c=>.loopM (kp cur) (Aa2 P n pr yl S0 kp rf cur c)
 |.label _=>.skip
 |.exit id=>.exit id
 |.ret=>.ret
 |.rangeFunc g ps asq body=>rf g ps asq body
 |_=>.bad
structure zd3 where
 pr:List Nat
 kp:List (Nat×List Nat)
 fi:FuncId
 ki:List (Nat×List Nat)
def ne2(l:List (Nat×List Nat))(id:Nat):List Nat:=match l.find? λp=>Nat.beq p.1 id with
 |some p=>p.2
 |none=>[]
def uc9(_:Operand)(_:Array Tmp)(_ _:Code):PC:=.bad
def mf5(P:Program)(h:zd3)(n:Nat)(ps:Array Tmp)(asq body:Code):Rd :=
 ⟨n,ps.toList,Aa2 P n h.pr none [] (ne2 h.kp) uc9 0 asq,Aa2 P n h.pr none [] (ne2 h.kp) uc9 0 body⟩
def Vd4(P:Program)(h:zd3)(fnI:Func)(cI:Code)(n:Nat)(g:Operand)(ps:Array Tmp)(asq body:Code):PC :=
 match ltO n g&&Nat.beq fnI.results.size 0&&ps.toList.all (λp=>Nat.blt p n) with
 |true=>.inner h.fi (f0 g) fnI.ntmps (Aa2 P fnI.ntmps [] (some (mf5 P h n ps asq body)) [(0,none)] (ne2 h.ki) uc9 0 cI)
 |false=>.bad
def Jb5(P:Program)(h:zd3)(fnI fn:Func):Option PFn :=
 match fn.body,fnI.body with
 |some c,some cI =>
  if fn.results.toList.all (Fd1 P) then some ⟨fn.ntmps,fn.results.toList.map (ad2 P),Aa2 P fn.ntmps h.pr none [] (ne2 h.kp) (Vd4 P h fnI cI fn.ntmps) 0 c⟩ else none
 |_,_=>none
def Kd5(H:List b7):Bool:=List.rec (motive:=λ_=>Bool) true (λb _ ih=>Bool.rec (motive:=λ_=>Bool) ih false (A9 b)) H
def Ob6(E:Env)(fn:PFn)(args:List a7)(blks:List b7):DT (a7×List b7) :=
 .guard (Bool.and (Kd5 blks) (Nat.ble (len args) fn.ntmps)) ((E2 E (len blks) fn.body ⟨app args (List.replicate (fn.ntmps-len args) (.v (.tuple #[]))),blks⟩).bind λr =>
  match r.1 with
  |.exit _=>.fail
  |_=>match fb6 (gb2 (m8 (da5 r.2.H) r.2.a) (i6 r.2.H)) fn.res with
   |some l=>.guard (Kd5 (E1 r.2.H (len blks))) (Vb9 (len blks) (i6 r.2.H) (Cb3 l))
   |none=>.fail)
section
variable{WB K:Nat->Prop}{J:List Value->World->Prop}{DF:List Deferred->Prop}{S:HL}{rv:Value}{ρ ρ0:Rho}{H H0 H':List b7}{F F0:Fz}{w w0 w':World}{W':Nat->Prop}{up:List Value}{E:Env}{a:List a7}{s s':St}{ac:Act}{x:a7}{o:Oper}{n:Nat}
def Rb8(tmps:Array Value):Option (Nat×Bool)->Prop
 |none=>True
 |some (d,b)=>tmps[d]?=some (.bool b)
structure I3(P:Program)(WB K:Nat->Prop)(J:List Value->World->Prop)(n:Nat)(S:HL)(rv:Value)(DF:List Deferred->Prop)(ρ0:Rho)(H0:List b7)(F0:Fz)(w0:World)(s:St)(ac:Act)(w:World):Prop where
 inv:dd6 P WB K J n ρ0 H0 F0 w0 s ac w
 held:∀p∈S,Rb8 ac.tmps p.2->ac.tmps[p.1]?=some rv
 df:DF ac.defers
theorem ma7{b:Bool}{so:SP}(h:(gb1 E a H (Rb7 b so)).run=some (x,H')):b=true/\Rb7 b so=so:=by
 cases b with
 |true=>exact⟨rfl,rfl⟩
 |false=>cases h
theorem Za8{pr:List Nat}{y:Operand}{p:Nat}(h:uc7 pr y=some p):y=.tmp p:=by
 unfold uc7 at h
 grind
theorem Fc1{P:Program}{t:TypeId}{q:mf4}(h:xe6 P t=some q):P.underlying t=some (.map q.kt q.el)/\da7 P 9 q.kt=some q.fl/\agT P q.kt=true/\Yb2 q.fl (szT P q.kt)=true:=by
 unfold xe6 at h
 grind
theorem Ob7{k:Nat}(h:(!Nat.beq k 0)=true):k≠0:=λe=>by subst e;cases h
theorem VR.arel(hv:VR ρ H F w a (ac.tmps.toList++up))(hn:ac.tmps.size=n):va8 ρ (i6 H) F w (m8 (da5 H) (E1 a n)) ac.tmps:=by
 have hl:=hv.1;have hsz:ac.tmps.toList.length=ac.tmps.size:=Array.length_toList;rw[Qdc] at hl;rw[j7,D0];refine⟨by rw[List.length_map,List.length_take];omega,λi x x' hx hx'=>?_⟩
 rw[Qbe] at hx;have hi:i<n:=hn ▸ (Qak.1 hx').1;rw[Qap,if_pos hi] at hx;cases hy:a[i]? with
 |none=>rw[hy] at hx;cases hx
 |some y =>
  rw[hy] at hx;injection hx with hx;subst hx;refine sd2 (hv.2 i y x' hy ?_)
  grind
theorem ye1{px:PO}{ds:List Deferred}(hC:C2 E.P WB K J ρ0 H0 F0 w0 H ds w ρ F W' up)(hJ:Xb9 K J)
  (hop:∀H1,(evalOp E (m8 (da5 H) (E1 a n)) (i6 H) px).run=some (x,H1)->f7 E.P o ac w (J6 W' ρ (i6 H) F w x H1)) (he:(gb1 E a H (.old n px)).run=some (x,H')):f7 E.P o ac w (Jb3 E.P WB K J ρ0 H0 F0 w0 ρ H F w up ds x H'):=by
 obtain⟨⟨x1,H1⟩,h1,h2⟩:=DT.run_bind_some (show ((evalOp E (m8 (da5 H) (E1 a n)) (i6 H) px).bind λr=>.guard (Ub3 H r.2) (.ret (r.1,p7 H r.2))).run=some (x,H') from he)
 obtain⟨hok,h2⟩:=DT.run_guard_some h2;have h2:some (x1,p7 H H1)=some (x,H'):=h2;injection h2 with h2;injection h2 with e1 e2;subst e1 e2
 intro next Q hp;refine hop H1 h1 next Q λx' w' ⟨ρ',F',k1,k2,k3⟩=>hp x' w' ?_
 obtain⟨c1,c2⟩:=hC.step hJ k1 hok k2;exact⟨_,F',W',c1,c2,.w (Ud8 k1 hok k3)⟩
theorem Xe2{α:Type}{l:Array α}{a b:α}(h:l.toList=[a,b]):l=#[a,b]:=by
 grind
theorem Xe3{α:Type}{l:Array α}{a:α}(h:l.toList=[a]):l=#[a]:=by
 grind
theorem mf6{pr:List Nat}{so:SP}{ds:List Deferred}(hC:C2 E.P WB K J ρ0 H0 F0 w0 H ds w ρ F W' up)(hJ:Xb9 K J)(hv:VR ρ H F w a (ac.tmps.toList++up))(hn:ac.tmps.size=n)(hG:GOk E F w)
  (hs:cSp E.P n pr o=some so) (he:(gb1 E a H so).run=some (x,H')):f7 E.P o ac w (Jb3 E.P WB K J ρ0 H0 F0 w0 ρ H F w up ds x H'):=by
 unfold cSp at hs
 split at hs
 ·rename_i t ho
  split at hs
  ·split at hs
   ·rename_i z hz;injection hs with hs;subst hs
    exact me0 hC hJ ho hz he
   ·injection hs with hs;subst hs;cases he
  ·cases hs
 ·rename_i t y ho
  split at hs
  ·injection hs with hs;subst hs
   obtain⟨h1,h2⟩:=ma7 he;rw[h2] at he;exact Me8 hC hJ hv hn hG ho h1 he
  ·cases hs
 ·rename_i t y ho
  split at hs
  ·rename_i p hp;injection hs with hs;subst hs
   obtain⟨h1,h2⟩:=ma7 he;rw[h2] at he;rw[Qas] at h1;rw[Za8 hp] at ho;exact we3 hC hv hn hG ho h1.1 (λe=>by rw[e] at h1;cases h1.2) he
  ·cases hs
 ·rename_i t y z ho
  split at hs
  ·rename_i p hp;injection hs with hs;subst hs
   obtain⟨h1,h2⟩:=ma7 he;rw[h2] at he;rw[Qas,Qas] at h1;rw[Za8 hp] at ho;exact me1 hC hJ hv hn hG ho h1.1.1 h1.1.2 (Ob7 h1.2) he
  ·cases hs
 ·rename_i st y f ho
  split at hs
  ·rename_i p hp
   split at hs
   ·rename_i fs hu
    split at hs
    ·rename_i fd hf;injection hs with hs;subst hs
     obtain⟨h1,h2⟩:=ma7 he;rw[h2] at he;rw[Qas] at h1;rw[Za8 hp] at ho;exact Me9 hC hv hn hG ho h1.1 hu hf (Ob7 h1.2) he
    ·injection hs with hs;subst hs;cases he
   ·injection hs with hs;subst hs;cases he
  ·cases hs
 ·rename_i y ho
  split at hs
  ·rename_i p hp;injection hs with hs;subst hs
   obtain⟨h1,h2⟩:=ma7 he;rw[h2] at he;rw[Za8 hp] at ho;exact we4 hC hv hn hG (.inl ho) h1 he
  ·cases hs
 ·rename_i y ho
  split at hs
  ·rename_i p hp;injection hs with hs;subst hs
   obtain⟨h1,h2⟩:=ma7 he;rw[h2] at he;rw[Za8 hp] at ho;exact we4 hC hv hn hG (.inr ho) h1 he
  ·cases hs
 ·rename_i t ho
  split at hs
  ·rename_i q hq;injection hs with hs;subst hs
   obtain⟨h1,h2,_,_⟩:=Fc1 hq;exact xe0 hC hJ ho h1 h2 he
  ·injection hs with hs;subst hs;cases he
 ·rename_i t m y ho
  split at hs
  ·rename_i q hq;injection hs with hs;subst hs
   obtain⟨h1,h2,h3,h4⟩:=Fc1 hq;obtain⟨k1,k2⟩:=ma7 he;rw[k2] at he;rw[Qas,Qas] at k1;exact xe1 hC hv hn hG ho k1.1.1 k1.1.2 h1 h3 h2 h4 k1.2 he
  ·injection hs with hs;subst hs;cases he
 ·rename_i t m y z ho
  split at hs
  ·rename_i q hq;injection hs with hs;subst hs
   obtain⟨h1,h2,h3,h4⟩:=Fc1 hq;obtain⟨k1,k2⟩:=ma7 he;rw[k2] at he;rw[Qas,Qas] at k1;exact Ne0 hC hJ hv hn hG ho k1.1.1 k1.1.2 k1.2 h1 h3 h2 h4 he
  ·injection hs with hs;subst hs;cases he
 ·rename_i c ho
  split at hs
  ·rename_i hcb
   split at hs
   ·split at hs
    ·rename_i y z t u hargs htys
     split at hs
     ·rename_i e hu;injection hs with hs;subst hs
      obtain⟨k1,k2⟩:=ma7 he;rw[k2] at he;rw[Qas,Qcf] at k1;have htu:=Qad k1.2;subst htu;obtain⟨ti,hi,hi0,hi1⟩:=sc5 (Nat.ne_of_gt k1.1);refine ye1 hC hJ (λH1 h1=>?_) he
      exact ad5 (hv.arel hn) hC.hrel hG ho hcb (Xe2 hargs) (Xe2 htys) hu hi (by omega) h1
     ·injection hs with hs;subst hs;cases he
    ·injection hs with hs;subst hs;cases he
   ·cases hs
  ·rename_i hcb
   split at hs
   ·rename_i y t hargs htys
    split at hs
    ·rename_i e hu
     split at hs
     ·rename_i z hz;injection hs with hs;subst hs
      obtain⟨k1,k2⟩:=ma7 he;rw[k2] at he;rw[Qcf] at k1;refine ye1 hC hJ (λH1 h1=>?_) he
      exact qd3 (hv.arel hn) hC.hrel hG ho hcb (Xe3 hargs) (Xe3 htys) hu hz k1 h1
     ·injection hs with hs;subst hs;cases he
    ·injection hs with hs;subst hs;cases he
   ·injection hs with hs;subst hs;cases he
  ·cases hs
 ·cases hs
theorem VR.putA(hv:VR ρ H F w a (ac.tmps.toList++up))(hn:ac.tmps.size=n){dst:Option Nat}(hd:dOk n dst=true){x':Value}(hx:XW ρ H F w x x'):VR ρ H F w (Ev.putA a dst x) ((ac.put dst x').tmps.toList++up):=by
 rw[fc4];cases dst with
 |none=>exact hv
 |some d =>
  have hd:d<n:=by have:=hd;unfold dOk at this;rwa [Qcf] at this
  have e:(ac.put (some d) x').tmps.toList++up=(ac.tmps.toList++up).set d x':=by
   rw[List.set_append_left _ _ (by rw[Array.length_toList];omega)]
   simp[Act.put]
  rw[e];refine⟨by simp only[List.length_set];exact hv.1,λi y y' hy hy'=>?_⟩
  rw[List.getElem?_set] at hy hy';by_cases hi:d=i
  ·simp_all
  ·rw[if_neg hi] at hy hy';exact hv.2 i y y' hy hy'
theorem VR.tr{vs:List Value}{ρ':Rho}{F':Fz}(hv:VR ρ H F w a vs)(ht:Tr ρ H F w ρ' H' F' w'):VR ρ' H' F' w' a vs:=⟨hv.1,λi x x' hx hx'=>ht _ _ (hv.2 i x x' hx hx')⟩
theorem VR.at(hv:VR ρ H F w a (ac.tmps.toList++up))(hn:ac.tmps.size=n){t:Nat}(ht:t<n):∃x',ac.tmps[t]?=some x'/\XW ρ H F w (b8 E a (.t t)) x':=by
 have hl:=hv.1;have hsz:ac.tmps.toList.length=ac.tmps.size:=Array.length_toList;rw[Qdc] at hl;have h1:t<a.length:=by omega
 have h2:t<ac.tmps.size:=by omega
 refine⟨ac.tmps[t],by simp[h2],?_⟩
 rw[lb5,Qaa h1];refine hv.2 t _ _ (Qaa h1) ?_
 simp_all
theorem kc2{ops:Array Oper}{g:Option (Nat×Bool)}{d:St->DT St}(hg:ca2 ops o=some g)(hgn:gOk n g=true)(hv:VR ρ H F w s.a (ac.tmps.toList++up))(hn:ac.tmps.size=n)(he:(Uc8 E s o.dst g d).run=some s') :
  (Region.wanted o (yielded ops ac.tmps)=true/\(d s).run=some s')\/(Region.wanted o (yielded ops ac.tmps)=false/\s'=⟨putA s.a o.dst (.v (.tuple #[])),s.H⟩):=by
 unfold ca2 at hg;unfold Region.wanted;cases hgo:o.guard with
 |none =>
  simp only[hgo] at hg ⊢;injection hg with hg;subst hg;exact .inl ⟨trivial,he⟩
 |some jw =>
  obtain⟨j,want⟩:=jw;simp only[hgo] at hg ⊢;cases hj:ops[j]? with
  |none=>simp[hj] at hg
  |some oj =>
  simp only[hj] at hg;cases hd:oj.dst with
  |none=>simp[hd] at hg
  |some dd =>
  simp only[hd] at hg;injection hg with hg;subst hg;have hdn:dd<n:=by have:=hgn;unfold gOk at this;rwa [Qcf] at this
  obtain⟨u',hu1,hu2⟩:=hv.at (E:=E) hn hdn;have he':(match b8 E s.a (.t dd) with
   | .v (.bool b) => Bool.rec (motive := fun _ => DT St)
     (.ite b (.ret ⟨putA (setAt s.a dd (.v (.bool true))) o.dst (.v (.tuple #[])),s.H⟩) (d ⟨setAt s.a dd (.v (.bool false)),s.H⟩))
     (.ite b (d ⟨setAt s.a dd (.v (.bool true)),s.H⟩) (.ret ⟨putA (setAt s.a dd (.v (.bool false))) o.dst (.v (.tuple #[])),s.H⟩)) want
   |.v (.tuple _)=>.ret ⟨putA s.a o.dst (.v (.tuple #[])),s.H⟩
   |_=>.fail).run=some s':=he
  have hset:∀b,b8 E s.a (.t dd)=.v (.bool b)->setAt s.a dd (.v (.bool b))=s.a:=λb h=>Hd7 (E:=E) (by simp) h
  revert he' hu2 hset
  generalize b8 E s.a (.t dd)=u;intro hu2 he' hset
  split at he'
  ·rename_i b;have hb:=me2 hu2;subst hb;rw[Nb7 hj hd hu1];have hs:=hset b rfl;cases want<;>cases b
   ·rw[hs] at he';exact .inl ⟨rfl,he'⟩
   ·refine .inr ⟨rfl,?_⟩;rw[hs] at he';exact (Qag he').symm
   ·refine .inr ⟨rfl,?_⟩;rw[hs] at he';exact (Qag he').symm
   ·rw[hs] at he';exact .inl ⟨rfl,he'⟩
  ·rename_i vs;have hb:=me2 hu2;subst hb;rw[Cb6 hj hd hu1]
   simp_all
  ·cases he'
theorem vc0{a a':Array Value}{dd:List Nat}(h:∀p∈S,Rb8 a p.2->a[p.1]?=some rv)(hs:∀t,¬ t∈dd->a'[t]?=a[t]?):∀p∈rmL S dd,Rb8 a' p.2->a'[p.1]?=some rv:=by
 intro p hp hg;simp only[rmL,List.mem_filter,Qas] at hp;obtain⟨h1,h2,h3⟩:=hp;rw[hs p.1 (by simpa using h2)]
 refine h p h1 ?_;obtain⟨t,g⟩:=p;cases g with
 |none=>trivial
 |some q =>
  obtain⟨d,b⟩:=q;have h3:¬ d∈dd:=by simpa using h3
  exact (hs d h3).symm.trans hg
theorem qb9{dst:Option Nat}{v:Value}(h:∀p∈S,Rb8 ac.tmps p.2->ac.tmps[p.1]?=some rv):∀p∈rmD S dst,Rb8 (ac.put dst v).tmps p.2->(ac.put dst v).tmps[p.1]?=some rv:=by
 cases dst with
 |none=>exact h
 |some d=>exact vc0 h λt ht=>Jb2 λe=>by injection e with e;subst e;simp at ht
theorem Vd5{tmps:Array Value}{g g':Option (Nat×Bool)}(h:xe7 g g'=true)(hg:Rb8 tmps g'):Rb8 tmps g:=by
 cases g with
 |none=>trivial
 |some q =>
  obtain⟨d,b⟩:=q;cases g' with
  |none=>cases h
  |some q' =>
   obtain⟨d',b'⟩:=q';simp only[xe7,Qas,beq_iff_eq] at h
   simp_all
theorem Fc2{tmps:Array Value}{t:Nat}{g:Option (Nat×Bool)}(h:∀p∈S,Rb8 tmps p.2->tmps[p.1]?=some rv)(hs:xe8 S t g=true)(hg:Rb8 tmps g):tmps[t]?=some rv:=by
 simp only[xe8,List.any_eq_true,Qas] at hs;obtain⟨p,h1,h2,h3⟩:=hs
 have:=h p h1 (Vd5 h3 hg)
 simp_all
theorem Yb6{ops:Array Oper}{o:Oper}{g:Option (Nat×Bool)}{tmps:Array Value}(hg:ca2 ops o=some g):Region.wanted o (yielded ops tmps)=true↔Rb8 tmps g:=by
 unfold ca2 at hg;unfold Region.wanted;cases hgo:o.guard with
 |none =>
  simp only[hgo] at hg ⊢;injection hg with hg;subst hg;exact⟨λ_=>trivial,λ_=>trivial⟩
 |some jw =>
  obtain⟨j,want⟩:=jw;simp only[hgo] at hg ⊢;cases hj:ops[j]? with
  |none=>simp[hj] at hg
  |some oj =>
  simp only[hj] at hg;cases hd:oj.dst with
  |none=>simp[hd] at hg
  |some d =>
  simp only[hd] at hg;injection hg with hg;subst hg;simp only[yielded,hj,Option.bind_some,hd,Rb8]
  grind
theorem df6{Fe:Fence}{m i:Nat}{pr:List Nat}{so:SP}{g:Option (Nat×Bool)}{ops:Array Oper}{rest:List Nat}{Q:Exit->Act->World->Prop}(hF:FW Fe)(hG0:GOk E F0 w0)(hJ:Xb9 K J)(hi:ops[i]?=some o)
  (hs:cSp E.P n pr o=some so) (hg:ca2 ops o=some g) (hgn:gOk n g=true) (hdn:dOk n o.dst=true) (hI:I3 E.P WB K J n S rv DF ρ0 H0 F0 w0 s ac w) (he:(Rd0 E s o.dst g so).run=some s')
  (hQ:∀ac' w',I3 E.P WB K J n (rmD S o.dst) rv DF ρ0 H0 F0 w0 s' ac' w'->wpOpsIn Fe m E.P ops Q rest ac' w'):wpOpsIn Fe m E.P ops Q (i::rest) ac w:=by
 obtain⟨⟨ρ,F,W',up,hI2⟩,hheld,hdf⟩:=hI;simp only[wpOpsIn,hi]
 rcases kc2 hg hgn hI2.vals hI2.size he with⟨hw,he⟩|⟨hw,rfl⟩
 ·rw[if_pos hw];obtain⟨⟨x,H'⟩,h1,h2⟩:=DT.run_bind_some he;have h2:some (⟨putA s.a o.dst x,H'⟩:St)=some s':=h2;injection h2 with h2;subst h2;have hop:=mf6 (ac:={ ac with defers:=[] }) (ds:=ac.defers) hI2.core hJ hI2.vals hI2.size (hG0.adv hI2.core.adv) hs h1
  refine hop.inAny hF m _ _ λx' w' hp=>?_
  obtain⟨ρ',F',W'',c1,c2,c3⟩:=hp;exact hQ _ _ ⟨⟨ρ',F',W'',up,by rw[o2];exact c1,(hI2.vals.tr c2).putA hI2.size hdn c3,(Z0 _ _).trans hI2.size⟩,qb9 hheld,by rw[o2];exact hdf⟩
 ·rw[if_neg (by simp[hw])]
  refine⟨λf _=>hF.fn f,hQ _ _ ⟨⟨ρ,F,W',up,by rw[o2];exact hI2.core,hI2.vals.putA hI2.size hdn (.w (.ofv _)),(Z0 _ _).trans hI2.size⟩,qb9 hheld,by rw[o2];exact hdf⟩⟩
theorem ye2{Fe:Fence}{m i d k:Nat}{g:Option (Nat×Bool)}{ops:Array Oper}{rest:List Nat}{Q:Exit->Act->World->Prop}{xx:d8}(hF:FW Fe)(hG0:GOk E F0 w0)(hcalls:∀f,d9 E.P E.G f (E.call f))(hJ:Xb9 K J)(hi:ops[i]?=some o)
  (hc:ed2 ops S o=some (d,g)) (hdn:d<n) (hI:I3 E.P WB K J n S rv DF ρ0 H0 F0 w0 s ac w) (he:(E2 E k (.mask n [d] (.ops [⟨some d,none,[],.mv (.c .unk)⟩])) s).run=some (xx,s'))
  (hQ:xx=.normal->∀ac' w',I3 E.P WB K J n ((d,g)::rmL S [d]) rv DF ρ0 H0 F0 w0 s' ac' w'->wpOpsIn Fe m E.P ops Q rest ac' w'):wpOpsIn Fe m E.P ops Q (i::rest) ac w:=by
 obtain⟨⟨ρ,F,W',up,hI2⟩,hheld,hdf⟩:=hI;unfold ed2 at hc
 split at hc
 case h_2=>cases hc
 rename_i t d' ho hd
 split at hc
 case h_2=>cases hc
 rename_i g' hg
 split at hc
 case isFalse=>cases hc
 rename_i hS;injection hc with hc;injection hc with e1 e2;subst e1 e2;simp only[wpOpsIn,hi];have he':((E2 E k (.ops [⟨some d',none,[],.mv (.c .unk)⟩]) ⟨m8 (da5 s.H) (E1 s.a n),i6 s.H⟩).bind λr=>.guard (Ub3 s.H r.2.H) (.ret (r.1,⟨ka3 [d'] s.a r.2.a 0,p7 s.H r.2.H⟩))).run=some (xx,s'):=he
 obtain⟨⟨x1,s1⟩,h1,h2⟩:=DT.run_bind_some he';obtain⟨hok,h2⟩:=DT.run_guard_some h2;have h1:some (d8.normal,(⟨putA (m8 (da5 s.H) (E1 s.a n)) (some d') .unk,i6 s.H⟩:St))=some (x1,s1):=h1;injection h1 with h1;injection h1 with e1 e2;subst e1 e2
 have h2:some (d8.normal,(⟨ka3 [d'] s.a (putA (m8 (da5 s.H) (E1 s.a n)) (some d') .unk) 0,p7 s.H (i6 s.H)⟩:St))=some (xx,s'):=h2;injection h2 with h2;injection h2 with e1 e2;subst e1 e2
 obtain⟨c1,c2⟩:=hI2.core.step hJ .refl hok hI2.core.hrel;have hvr:∀v,VR (ρsp s.H ρ ρ) (p7 s.H (i6 s.H)) F w (ka3 [d'] s.a (putA (m8 (da5 s.H) (E1 s.a n)) (some d') .unk) 0) ((ac.put o.dst v).tmps.toList++up):=λv=>by
  refine⟨by rw[Yb1];have:=hI2.vals.1;rw[Qdc,Array.length_toList] at this ⊢;rw[Z0];exact this,λi y y' hy hy'=>?_⟩
  rw[Yb0] at hy;cases hz:s.a[i]? with
  |none=>rw[hz] at hy;cases hy
  |some z =>
   rw[hz] at hy;injection hy with hy;rw[Qar] at hy;by_cases hid:i=d'
   ·subst hid;have hm:fb7 i [i]=true:=(dd7 _ _).2 (by simp)
    rw[hm] at hy;have hy:((putA (m8 (da5 s.H) (E1 s.a n)) (some i) .unk)[i]?).getD .unk=y:=hy;rw[fc4] at hy;simp only[List.getElem?_set] at hy
    have:y=.unk:=by
     rw[<- hy];simp only[if_true]
     split<;>rfl
    subst this;exact .w (.unk _)
   ·have hm : fb7 i [d'] = false := by
     cases h:fb7 i [d'] with
     |false=>rfl
     |true=>exact absurd (by simpa using (dd7 _ _).1 h) hid
    rw[hm] at hy;have hy:z=y:=hy;subst hy;refine c2 _ _ (hI2.vals.2 i z y' hz ?_);rw[hd] at hy';simpa [Act.put,List.getElem?_append,Qea,Ne.symm hid] using hy'
 have hfin:∀v,(Region.wanted o (yielded ops ac.tmps)=true->v=rv)->(Region.wanted o (yielded ops ac.tmps)=false->v=undef)->wpOpsIn Fe m E.P ops Q rest (ac.put o.dst v) w:=λv hv1 hv2=>by
  refine hQ rfl _ _ ⟨⟨_,F,W',up,by rw[o2];exact c1,hvr v,(Z0 _ _).trans hI2.size⟩,λp hp hgp=>?_,by rw[o2];exact hdf⟩
  have hlt:d'<ac.tmps.size:=Nat.lt_of_lt_of_eq hdn hI2.size.symm;have hset:(ac.put (some d') v).tmps[d']?=some v:=by
   show (ac.tmps.setIfInBounds d' v)[d']?=some v;exact Array.getElem?_setIfInBounds_self_of_lt hlt
  rcases Qbi.1 hp with rfl|hp
  ·cases hw:Region.wanted o (yielded ops ac.tmps) with
   |true=>rw[hd,<- hv1 hw];exact hset
   |false =>
    exfalso;have hng:¬ Rb8 ac.tmps g':=λh=>by rw[(Yb6 hg).2 h] at hw;cases hw
    cases g' with
    |none=>exact hng trivial
    |some q =>
     obtain⟨dg,b⟩:=q;have hgq:(ac.put o.dst v).tmps[dg]?=some (.bool b):=hgp;by_cases he:dg=d'
     ·subst he;rw[hd,hset,hv2 hw] at hgq;injection hgq with hgq;cases hgq
     ·rw[Jb2 (λe=>he (by rw[hd] at e;injection e with e;exact e.symm))] at hgq
      exact hng hgq
  ·have:=qb9 (dst:=some d') (v:=v) hheld p hp
   rw[hd] at hgp ⊢;exact this hgp
 by_cases hw:Region.wanted o (yielded ops ac.tmps)=true
 ·rw[if_pos hw];have ht:=Fc2 hheld hS ((Yb6 hg).1 hw);have hop:f7 E.P o { ac with defers:=[] } w (λv w'=>v=rv/\w'=w):=by
   have hev:({ ac with defers:=[] }:Act).eval (.tmp t)=rv:=by
    show ac.tmps.getD t undef=rv
    simp_all
   exact .value (x':=rv) (w':=w) (by simp[execOp,ho,hev]) ⟨rfl,rfl⟩
  refine hop.inAny hF m _ _ λv w' hp=>?_
  simp_all
 ·rw[if_neg hw];exact⟨λf _=>hF.fn f,hfin _ (λh=>absurd h hw) λ_=>rfl⟩
end
section
variable{P:Program}{k:Nat}{WB K:Nat->Prop}{J:List Value->World->Prop}{DF:List Deferred->Prop}{S:HL}{rv:Value}{ρ ρ0:Rho}{H H0 H2:List b7}{F F0:Fz}{w w0:World}{W':Nat->Prop}{up:List Value}{E:Env}{R:List Nat}{n:Nat}
def ye3(H:List b7)(x:a7)(r:List Nat):List Nat:=match x with
 |.ptr id _ _ g=>match blkAt H id g with
  |some _=>(Ca3 r id).2
  |none=>r
 |.sl id _ _ g=>match blkAt H id g with
  |some _=>(Ca3 r id).2
  |none=>r
 |_=>r
theorem ye4(H:List b7)(x:a7)(r:List Nat)(hr:TOk k r):TOk k (ye3 H x r)/\TLe r (ye3 H x r):=by
 have step:∀id,TOk k (Ca3 r id).2/\TLe r (Ca3 r id).2:=λid=>by
  obtain⟨h1,h2,_⟩:=hr.idx (id:=id) (j:=(Ca3 r id).1) (r:=(Ca3 r id).2) rfl;exact⟨h1,h2⟩
 unfold ye3;split
 ·split
  ·exact step _
  ·exact⟨hr,.refl _⟩
 ·split
  ·exact step _
  ·exact⟨hr,.refl _⟩
 ·exact⟨hr,.refl _⟩
theorem Kd6(H:List b7):∀(cs:List a7) (r:List Nat),TOk k r->TOk k (ae8 H cs r)/\TLe r (ae8 H cs r)
 |[],r,hr=>⟨hr,.refl _⟩
 |x::cs,r,hr=>by
  have hx:=ye4 H x r hr;obtain⟨h1,h2⟩:=Kd6 H cs _ hx.1;exact⟨h1,hx.2.trans h2⟩
def ye5(H:List b7)(id:Nat)(r:List Nat):List Nat:=match nth H id with
 |some b=>match A9 b&&Nat.beq b.et 0 with
  |true=>ae8 H (j9 b.elems 0) r
  |false=>r
 |none=>r
theorem ye6(H:List b7)(id:Nat)(r:List Nat)(hr:TOk k r):TOk k (ye5 H id r)/\TLe r (ye5 H id r):=by
 unfold ye5;split
 ·split
  ·exact Kd6 H _ r hr
  ·exact⟨hr,.refl _⟩
 ·exact⟨hr,.refl _⟩
theorem Kd7(H:List b7):∀(ids:List Nat) (r:List Nat),TOk k r->TOk k (pd5 H ids r)/\TLe r (pd5 H ids r)
 |[],r,hr=>⟨hr,.refl _⟩
 |id::ids,r,hr=>by
  have hx:=ye6 H id r hr;obtain⟨h1,h2⟩:=Kd7 H ids _ hx.1;exact⟨h1,hx.2.trans h2⟩
def de8(b:b7):b7:=Bool.rec (motive:=λ_=>b7) b { b with dead:=true } (A9 b)
theorem Fc3(H:List b7):i6 H=H.map de8:=qb8 H
theorem Ob8:∀{R:List Nat} {j:Nat} {H2:List b7},Ka4 k H j R=some H2->Ka4 k (i6 H) j R=some (i6 H2)
 |[],j,H2,h=>by
  simp only[Ka4] at h ⊢;injection h with h;subst h;rfl
 |id::R,j,H2,h=>by
  simp only[Ka4,B0] at h ⊢;cases hb:H[id]? with
  |none=>simp[hb] at h
  |some b =>
  simp only[hb] at h;cases hr:Ka4 k H (j+1) R with
  |none=>simp[hr] at h
  |some l =>
  simp only[hr] at h;injection h with h;subst h;have e:(i6 H)[id]?=some (de8 b):=by rw[Fc3,Qbe,hb];rfl
  rw[e,Ob8 hr];simp only[Fc3,Qbo];congr 2;unfold de8;cases Nat.blt j k<;>cases hs:A9 b<;>simp[A9] at hs ⊢<;>simp[hs]
theorem Ne4(x:a7):TC k H R x (se6 k H R x):=by
 unfold se6;split
 ·rename_i id i c g;split
  ·rename_i b hb;split
   ·rename_i j hj
    have:=(lb6 R 0 id j hj).2
    exact .ptr id i c g j b hb (by simpa using this)
   ·exact .unk _
  ·exact .unk _
 ·rename_i id off n g;split
  ·rename_i b hb;split
   ·rename_i j hj
    have:=(lb6 R 0 id j hj).2
    exact .sl id off n g j b hb (by simpa using this)
   ·exact .unk _
  ·exact .unk _
 ·rename_i h1 h2;refine .same x ?_
  simp_all
theorem Vc9{x z:a7}{x':Value}(h:TC k H R x z)(hx:U2 ρ (i6 H) F w x x'):TC k (i6 H) R x z:=by
 cases h with
 |unk=>exact .unk _
 |ptr id i c g j b hb hj =>
  obtain⟨hb1,hd1,hg1⟩:=p9 hb;obtain⟨ad,b2,e,m1,m2,m3,m4⟩:=Ha2 (.val (.cell hx));obtain⟨n1,n2⟩:=ca3 m1 m2
  have:b2=b:=Qag (n1.symm.trans hb1)
  subst this;exact .ptr id i c g j b2 (by unfold blkAt;simp only[B0,m1,m2,hg1];simp) hj
 |sl id off n g j b hb hj =>
  obtain⟨hb1,hd1,hg1⟩:=p9 hb;obtain⟨ad,cap,b2,e,m1,m2,m3,_⟩:=Ka1 (.val (.cell hx));obtain⟨n1,n2⟩:=ca3 m1 m2
  have:b2=b:=Qag (n1.symm.trans hb1)
  subst this;exact .sl id off n g j b2 (by unfold blkAt;simp only[B0,m1,m2,hg1];simp) hj
 |same x h=>exact .same x h
theorem de9{x z:a7}{x':Value}(h:TV k H R x z)(hx:da6 ρ (i6 H) F w x x'):TV k (i6 H) R x z:=by
 cases h with
 |cell hb h =>
  cases hx with
  |cell hx=>exact .cell hb (Vc9 h hx)
  |_=>cases hb
 |agg cs ds hl h =>
  obtain⟨vs,e,hl2,h2⟩:=qa3 (.val hx);refine .agg cs ds hl λi x z hx hz=>?_
  have hi:i<vs.size:=hl2 ▸ (Qab.1 hx).1;exact Vc9 (h i x z hx hz) (h2 i x _ hx (Qac hi))
 |fn f cs ds hl h =>
  obtain⟨vs,e,hl2,h2⟩:=Cb4 (.val hx);refine .fn f cs ds hl λi x z hx hz=>?_
  have hi:i<vs.size:=hl2 ▸ (Qab.1 hx).1;exact Vc9 (h i x z hx hz) (h2 i x _ hx (Qac hi))
 |tup l=>exact .tup l
theorem Ne5{x z:a7}{x':Value}(h:TW k H R x z)(hx:C9 ρ (i6 H) F w x x'):TW k (i6 H) R x z:=by
 cases h with
 |val hn h =>
  cases hx with
  |val hx=>exact .val hn (de9 h hx)
  |tup cs vs hl h2=>exact absurd rfl (hn cs)
 |tup cs ds hl h =>
  obtain⟨vs,e,hl2,h2⟩:=wd4 hx;refine .tup cs ds hl λi x z hx hz=>?_
  have hi:i<vs.size:=hl2 ▸ (Qab.1 hx).1;exact de9 (h i x z hx hz) (h2 i x _ hx (Qac hi))
theorem sd7{b:b7}(h:A9 b=false):Ta9 k H R b=b:=by unfold Ta9;rw[h];rfl
theorem Ob9(b:b7):(Ta9 k H R b).et=b.et/\(Ta9 k H R b).es=b.es/\(Ta9 k H R b).dead=b.dead/\(Ta9 k H R b).g=b.g/\(Ta9 k H R b).elems.length=b.elems.length/\A9 (Ta9 k H R b)=A9 b:=by
 unfold Ta9;cases A9 b&&Nat.beq b.et 0
 ·simp_all
 ·refine⟨rfl,rfl,rfl,rfl,by simp[j7],rfl⟩
section
variable(hR:TOk k R)(hb:Ka4 k H 0 R=some H2)
include hR hb
theorem zd4{j:Nat}{c:b7}(hc:(m8 (Ta9 k H R) H2)[j]?=some c):∃id b,R[j]?=some id/\(R[j]?).getD 0=id/\H[id]?=some b/\c=Ta9 k H R (reG k j b):=by
 rw[j7,Qbe] at hc;cases h:H2[j]? with
 |none=>rw[h] at hc;cases hc
 |some c2 =>
  rw[h] at hc;injection hc with hc;obtain⟨id,b,h1,h2,h3,h4⟩:=sc7 hb h
  simp_all
theorem ye7{j id:Nat}{b:b7}(hj:R[j]?=some id)(hid:H[id]?=some b):(m8 (Ta9 k H R) H2)[j]?=some (Ta9 k H R (reG k j b)):=by
 obtain⟨_,hat⟩:=Wb5 hb;obtain⟨b',h1,h2⟩:=hat j id hj
 have:b'=b:=Qag (h1.symm.trans hid)
 subst this;rw[Qar] at h2;rw[j7,Qbe,h2];rfl
theorem ed4(j:Nat)(b:b7):A9 (reG k j b)=A9 b:=by unfold A9;rw[qb6]
theorem sd8:rd6 (λj=>ρ ((R[j]?).getD 0)) (i6 H2) (λj=>ρ ((R[j]?).getD 0)) (i6 (m8 (Ta9 k H R) H2)):=λj b hb' hd=>by
 obtain⟨h1,h2⟩:=ca3 hb' hd;refine⟨b,W9 ?_ h2,hd,Qaf _,λ_=>⟨rfl,rfl,Qaf _⟩⟩
 rw[j7,Qbe,h1];simp[sd7 h2]
theorem mf7{x z:a7}{x':Value}(h:TC k H R x z)(hx:U2 ρ (i6 H) F w x x'):U2 (λj=>ρ ((R[j]?).getD 0)) (i6 (m8 (Ta9 k H R) H2)) F w z x' :=
 (fc3 (Ob8 hb) (Vc9 h hx) hx).carry (sd8 hR hb) (λ_ _ h=>h) (λ_ _ _=>rfl)
theorem Xe4{x z:a7}{x':Value}(h:TW k H R x z)(hx:C9 ρ (i6 H) F w x x'):C9 (λj=>ρ ((R[j]?).getD 0)) (i6 (m8 (Ta9 k H R) H2)) F w z x' :=
 (xd3 (Ob8 hb) (Ne5 h hx) hx).carry (sd8 hR hb) (λ_ _ h=>h) (λ_ _ _=>rfl)
theorem Vd6{x z:a7}{x':Value}(h:TC k H R x z)(hx:XC ρ H F w x x'):XW (λj=>ρ ((R[j]?).getD 0)) (m8 (Ta9 k H R) H2) F w z x'/\(XC (λj=>ρ ((R[j]?).getD 0)) (m8 (Ta9 k H R) H2) F w z x'):=by
 have main:XC (λj=>ρ ((R[j]?).getD 0)) (m8 (Ta9 k H R) H2) F w z x':=by
  cases hx with
  |n hx=>exact .n (mf7 hR hb h hx)
  |box id c g b hb1 hd he =>
   cases h with
   |unk=>exact .n (.unk _)
   |ptr _ _ _ _ j b2 hb2 hj =>
    have e:ρ id=(λj=>ρ ((R[j]?).getD 0)) j:=by simp[hj]
    rw[e];obtain⟨q1,q2,q3,q4,q5,q6⟩:=Ob9 (k:=k) (H:=H) (R:=R) (reG k j b);exact .box j c _ _ (ye7 hR hb hj hb1) (by rw[q3,Ka6];exact hd) ⟨by rw[q2,qb6];exact he.1,by rw[q1,oc8];exact he.2⟩
   |same _ hs=>exact hs.elim
  |map id c g b t hb1 hd he =>
   cases h with
   |unk=>exact .n (.unk _)
   |ptr _ _ _ _ j b2 hb2 hj =>
    have e:ρ id=(λj=>ρ ((R[j]?).getD 0)) j:=by simp[hj]
    rw[e];obtain⟨q1,q2,q3,q4,q5,q6⟩:=Ob9 (k:=k) (H:=H) (R:=R) (reG k j b);exact .map j c _ _ t (ye7 hR hb hj hb1) (by rw[q3,Ka6];exact hd) ⟨by rw[q2,qb6];exact he.1,by rw[q1,oc8];exact he.2⟩
   |same _ hs=>exact hs.elim
 exact⟨.c main,main⟩
theorem df7{x z:a7}{x':Value}(h:TW k H R x z)(hx:XW ρ H F w x x'):XW (λj=>ρ ((R[j]?).getD 0)) (m8 (Ta9 k H R) H2) F w z x':=by
 cases hx with
 |w hx=>exact .w (Xe4 hR hb h hx)
 |c hx =>
  have hx0:=hx;cases hx with
  |n hx=>exact .w (Xe4 hR hb h (.val (.cell hx)))
  |box =>
   cases h with
   |val _ h=>cases h with
    |cell _ h=>exact (Vd6 hR hb h hx0).1
  |map =>
   cases h with
   |val _ h=>cases h with
    |cell _ h=>exact (Vd6 hR hb h hx0).1
theorem ye8(h:ve7 P WB W' ρ H F w):ve7 P WB W' (λj=>ρ ((R[j]?).getD 0)) (m8 (Ta9 k H R) H2) F w:=by
 refine⟨λj c hc hs hd=>?_,λj j' c c' hc hc' hs hs' hd hd' hne=>?_⟩
 ·obtain⟨id,b,h1,h2,h3,h4⟩:=zd4 hR hb hc;subst h4;obtain⟨q1,q2,q3,q4,q5,q6⟩:=Ob9 (k:=k) (H:=H) (R:=R) (reG k j b);rw[q6,ed4 hR hb] at hs;rw[q3,Ka6] at hd;obtain⟨k1,k2,k3,k4,k5⟩:=h.has id b h3 hs hd;simp only[h2];refine⟨k1,k2,k3,k4,?_⟩
  rcases k5 with⟨e,row,vs,t,m1,m2,m3,m4⟩|⟨t,K,El,fl,es,clk,m1,m2,m3,m4,m5,m6⟩
  ·refine .inl ⟨⟨by rw[q2,qb6];exact e.1,by rw[q1,oc8];exact e.2⟩,row.map (se6 k H R),vs,t,?_,m2,by simpa using m3,λi z x' hz hx'=>?_⟩
   ·unfold Ta9
    have:(A9 (reG k j b)&&Nat.beq (reG k j b).et 0)=true:=by rw[ed4 hR hb,hs,oc8,e.2];rfl
    rw[this];show m8 (m8 (se6 k H R)) (reG k j b).elems=_;rw[Ra6,m1,j7];simp[j7]
   ·rw[Qbe] at hz;cases hq:row[i]? with
    |none=>rw[hq] at hz;cases hz
    |some q =>
     rw[hq] at hz;injection hz with hz;subst hz;obtain⟨g1,g2⟩:=m4 i q x' hq hx';exact⟨g1,(Vd6 hR hb (Ne4 q) g2).2⟩
  ·have hnb : Ta9 k H R (reG k j b) = reG k j b := by
    unfold Ta9
    have:(A9 (reG k j b)&&Nat.beq (reG k j b).et 0)=false:=by
     rw[oc8,m1.2,Bool.and_eq_false_iff];exact .inr rfl
    rw[this]
   rw[hnb];exact .inr ⟨t,K,El,fl,es,clk,⟨by rw[qb6];exact m1.1,by rw[oc8];exact m1.2⟩,m2,m3,m4,by rw[Ra6];exact m5,by rw[Ra6];exact m6⟩
 ·obtain⟨id,b,h1,h2,h3,h4⟩:=zd4 hR hb hc;obtain⟨id',b',h1',h2',h3',h4'⟩:=zd4 hR hb hc';subst h4 h4';obtain⟨_,_,q3,_,_,q6⟩:=Ob9 (k:=k) (H:=H) (R:=R) (reG k j b);obtain⟨_,_,q3',_,_,q6'⟩:=Ob9 (k:=k) (H:=H) (R:=R) (reG k j' b');rw[q6,ed4 hR hb] at hs;rw[q6',ed4 hR hb] at hs';rw[q3,Ka6] at hd;rw[q3',Ka6] at hd';simp only[h2,h2'];refine h.apart id id' b b' h3 h3' hs hs' hd hd' λe=>hne ?_
  subst e;obtain⟨a1,a2⟩:=Qab.1 h1;obtain⟨b1,b2⟩:=Qab.1 h1';exact (List.getElem_inj hR.nodup).1 (a2.trans b2.symm)
end
theorem df8{ds:List Deferred}(hR:TOk H0.length R)(hb:Ka4 H0.length H 0 R=some H2)(h:C2 P WB K J ρ0 H0 F0 w0 H ds w ρ F W' up):C2 P WB K J ρ0 H0 F0 w0 (m8 (Ta9 H0.length H R) H2) ds w (λj=>ρ ((R[j]?).getD 0)) F W' up:=by
 have hAd:=sc8 hR hb h.adv;have hat:∀(j:Nat) c,H2[j]?=some c->(m8 (Ta9 H0.length H R) H2)[j]?=some (Ta9 H0.length H R c):=λj c hc=>by rw[j7,Qbe,hc];rfl
 refine⟨h.sub,⟨hAd.ext,λid b hid=>?_,hAd.more,hAd.new,λid b' hb' hn=>?_⟩,?_,ye8 hR hb h.srel,h.kept,λj c hc hs hd=>?_,h.jot,h.marks⟩
 ·obtain⟨b',k1,k2,k3,k4⟩:=hAd.heap id b hid;obtain⟨q1,q2,q3,q4,q5,q6⟩:=Ob9 (k:=H0.length) (H:=H) (R:=R) b'
  simp_all
 ·rw[j7,Qbe] at hb';cases hq:H2[id]? with
  |none=>rw[hq] at hb';cases hb'
  |some c =>
   rw[hq] at hb';injection hb' with hb';subst hb';obtain⟨_,_,_,q4,_,_⟩:=Ob9 (k:=H0.length) (H:=H) (R:=R) c;exact hAd.fresh id c hq λb hb1=>by rw[<- q4];exact hn b hb1
 ·refine (fc2 hR h.hrel (Ob8 hb)).pull (λi=>i) (λi b hb1 hd=>?_) (λ_ _ _ _ _ _ _ _ e=>e)
  obtain⟨h1,h2⟩:=ca3 hb1 hd;rw[j7,Qbe] at h1;cases hq:H2[i]? with
  |none=>rw[hq] at h1;cases h1
  |some c =>
   rw[hq] at h1;injection h1 with h1;have hsc:A9 c=false:=by
    obtain⟨_,_,_,_,_,q6⟩:=Ob9 (k:=H0.length) (H:=H) (R:=R) c;rw[<- q6,h1];exact h2
   rw[sd7 hsc] at h1;subst h1;exact⟨W9 hq hsc,rfl⟩
 ·obtain⟨id,b,h1,h2,h3,h4⟩:=zd4 hR hb hc;subst h4;obtain⟨_,_,q3,_,_,q6⟩:=Ob9 (k:=H0.length) (H:=H) (R:=R) (reG H0.length j b);rw[q6,ed4 hR hb] at hs;rw[q3,Ka6] at hd;simp only[h2];exact h.far id b h3 hs hd
theorem I3.tidyM{s s':St}{ac:Act}{keep:List Nat}(h:I3 P WB K J n S rv DF ρ0 H0 F0 w0 s ac w)(he:(Ev.tidyM H0.length ⟨N7 keep s.a 0,s.H⟩).run=some s'):I3 P WB K J n S rv DF ρ0 H0 F0 w0 s' ac w:=by
 obtain⟨⟨ρ,F,W',up,hI⟩,hheld,hdf⟩:=h;unfold Ev.tidyM at he;cases ht:rc6 H0.length s.H (N7 keep s.a 0) (List.range H0.length) with
 |mk a roots =>
 simp only[ht] at he;cases hb:Ka4 H0.length s.H 0 (pd5 s.H roots roots) with
 |none=>simp[hb] at he
 |some H2 =>
 simp only[hb] at he;have he':some (⟨a,m8 (Ta9 H0.length s.H (pd5 s.H roots roots)) H2⟩:St)=some s':=he;injection he' with he';subst he';obtain⟨k1,_,k3,k4⟩:=bd4 (TOk.start _) ht;obtain⟨m1,m2⟩:=Kd7 s.H roots roots k1;obtain⟨g1,g2⟩:=Wb6 keep s.a 0;refine⟨⟨_,F,W',up,df8 m1 hb hI.core,⟨(k3.trans g1).trans hI.vals.1,λi x x' hx hx'=>?_⟩,hI.size⟩,hheld,hdf⟩
 have hi:i<(N7 keep s.a 0).length:=k3 ▸ (Qab.1 hx).1;have hk:=k4 i _ x (Qaa hi) hx;refine df7 m1 hb (hk.le m2) ?_
 rcases g2 i _ (Qaa hi) with e|e
 ·rw[e];exact .w (.unk _)
 ·exact hI.vals.2 i _ x' e hx'
end
section
variable{DS:Nat->Prop}{tm:Array Value}{ds:List Deferred}{Fe:Fence}{nn:Nat}
variable{W:Nat->Prop}{ρ0:Rho}{H0:List b7}{F0:Fz}{w0 w:World}
variable{tr:Nat}{E:Env}{ops:Array Oper}{M:List Nat}{ks:List (Nat×PI)}{s:St}{U T:Nat->St}
structure Ub5(DS:Nat->Prop)(tm:Array Value)(ds:List Deferred)(W:Nat->Prop)(ρ0:Rho)(H0:List b7)(F0:Fz)(w0:World)(tr:Nat)(E:Env)(ops:Array Oper)(a0:List a7)(U T:Nat->St)(m:Nat)(listed:Array Bool)(ac:Act)(w:World):Prop where
 size:listed.size=ops.size
 closed:∀j,j<ops.size->C3 listed j->∀i∈D1 (Ca1 ops j),C3 listed i
 hm:m<=ops.size
 heavy:∀j,j<ops.size->J1 tr E.P ops j=2->(C3 listed j↔j<m)
 inv:wb9 DS tm ds W ρ0 H0 F0 w0 ⟨Ya4 (T ops.size).a a0 (T9 ops listed),fa5 (T m).H (N2 tr E.P ops U listed)⟩ ac w
variable(hD:DC tr E.P ops M ks)(hT:cd1 E ops ks s U T)(hin:∀j,j<ops.size->J1 tr E.P ops j=0->∀d,da9 ops j=some d->d<s.a.length)
include hD
theorem Qa7{m:Nat}{listed:Array Bool}{ac:Act}(hR:Ub5 DS tm ds W ρ0 H0 F0 w0 tr E ops s.a U T m listed ac w){j:Nat}(hj:j<ops.size)(hd:∀i∈D1 (Ca1 ops j),C3 listed i){i:Nat}(hi:i<ops.size)(hb:r4 M i j=true):C3 listed i :=
 Mc8 hD.rows (C3 listed) (λj' o ho hx i hi=>by
  have hj':=(Qak.1 ho).1
  have:o=Ca1 ops j':=Qag (ho.symm.trans (na4 hj'))
  subst this;exact hR.closed j' hj' hx i hi) j _ (na4 hj) hd i hi hb
include hT
theorem ed5{m:Nat}{listed:Array Bool}{ac:Act}(hR:Ub5 DS tm ds W ρ0 H0 F0 w0 tr E ops s.a U T m listed ac w){j:Nat}(hj:j<ops.size)(hnx:¬ C3 listed j)(hd:∀i∈D1 (Ca1 ops j),C3 listed i) :
  Agr (T j).a (Ya4 (T ops.size).a s.a (T9 ops listed)) (oc1 (pc1 ops j)++zb2 (R6 tr E.P ops j)):=λt ht=>by
 have huniq:∀{i i':Nat},i<ops.size->i'<ops.size->da9 ops i=some t->da9 ops i'=some t->i=i':=λ{i i'} h1 h2 e1 e2=>((hD.slots h1 h2 e1).2).resolve_right λh=>h e2
 have hend:(∀i,j<=i->i<ops.size->da9 ops i≠some t)->(T j).a[t]?=(T ops.size).a[t]?:=λh=>by
  have:=pc2 hD hT (t:=t) (ops.size-j) j (by omega) λi h1 h2 _=>h i h1 (by omega)
  rw[show j+(ops.size-j)=ops.size by omega] at this
  exact this.symm
 by_cases hw:∃i,i<ops.size/\da9 ops i=some t
 ·obtain⟨i,hi,hdi⟩:=hw
  rcases (hD.slots hi hj hdi).1 ht with hb|⟨_,hna,hb⟩
  ·have hxi:=Qa7 hD hR hj hd hi hb;rw[Za4]
   ·refine hend λk h1 h2 he=>?_
    have:=huniq hi h2 hdi he
    have:=Ib9 hD hj hi hb
    omega
   ·rintro⟨k,h1,h2,h3⟩
    grind
  ·have hxi : ¬ C3 listed i := fun hx => by
    rcases hb with hb|hb
    ·exact hnx (Qa7 hD hR hi (hR.closed i hi hx) hj hb)
    ·subst hb;exact hnx hx
   have hji:j<=i:=by
    rcases hb with hb|hb
    ·have:=Ib9 hD hi hj hb;omega
    ·omega
   have h1:=pc2 hD hT (t:=t) j 0 (by omega) λk _ h2 _ he=>by
    have:=huniq hi (by omega) hdi he
    omega
   have h2:=yd0 hD hT (t:=t) ops.size 0 (by omega) λk _ h2 hk he=>by
    have:=huniq hi (by omega) hdi he
    subst this
    have:=cd0 hk
    rw[hna] at this;cases this
   rw[Qar] at h1 h2;rw[h1,hT.t0,h2,hT.u0]
   rcases Qaq t (T ops.size).a.length with hlt|hge
   ·rw[tc3 ⟨i,hi,hdi,hxi⟩ hlt];rw[(Xb1 hD hT ops.size (Qaf _)).2] at hlt
    simp_all
   ·rw[Qat (by rw[<- (Xb1 hD hT ops.size (Qaf _)).2];exact hge),Qat (by rw[Za3];exact hge)]
 ·rw[Za4]
  ·grind
  ·rintro⟨k,h1,h2,_⟩;exact hw ⟨k,h1,h2⟩
end
section
variable{DS:Nat->Prop}{tm:Array Value}{ds:List Deferred}{Fe:Fence}{nn:Nat}
variable{W:Nat->Prop}{ρ0:Rho}{H0:List b7}{F0:Fz}{w0 w:World}
variable{tr:Nat}{E:Env}{ops:Array Oper}{M:List Nat}{ks:List (Nat×PI)}{s:St}{U T:Nat->St}
variable(hD:DC tr E.P ops M ks)(hT:cd1 E ops ks s U T)(hin:∀j,j<ops.size->J1 tr E.P ops j=0->∀d,da9 ops j=some d->d<s.a.length)
variable(hpairs:Ha1 E (T ops.size).a (Aa5 ops.size M ks)=true)
variable(hF:FW Fe)(hDS:∀j d,j<ops.size->da9 ops j=some d->DS d)
variable(hG0:GOk E F0 w0)(hcalls:∀f,d9 E.P E.G f (E.call f))
include hD
theorem Ub5.next{m m':Nat}{listed:Array Bool}{ac ac':Act}{w':World}(hR:Ub5 DS tm ds W ρ0 H0 F0 w0 tr E ops s.a U T m listed ac w){i:Nat}(hi:i<ops.size)(hdi:∀j∈D1 (Ca1 ops i),C3 listed j)
  (hm':m'<=ops.size) (hheavy:∀j,j<ops.size->J1 tr E.P ops j=2->(C3 (listed.setIfInBounds i true) j↔j<m'))
  {x:a7} (hx:∀d,da9 ops i=some d->d<(T ops.size).a.length->(T ops.size).a[d]?=some x)
  (hI:wb9 DS tm ds W ρ0 H0 F0 w0 ⟨putA (Ya4 (T ops.size).a s.a (T9 ops listed)) (da9 ops i) x,fa5 (T m').H (N2 tr E.P ops U (listed.setIfInBounds i true))⟩ ac' w') :
  Ub5 DS tm ds W ρ0 H0 F0 w0 tr E ops s.a U T m' (listed.setIfInBounds i true) ac' w':=by
 refine⟨by simpa using hR.size,λj hj hx k hk=>?_,hm',hheavy,by rw[ke7 hD hR.size hi hx];exact hI⟩
 have his:i<listed.size:=by rw[hR.size];exact hi
 rcases (N8 his).1 hx with h|h
 ·exact (N8 his).2 (.inl (hR.closed j hj h k hk))
 ·subst h;exact (N8 his).2 (.inl (hdi k hk))
omit hD in
theorem wb9.puts{ac:Act}{j:Nat}(hDS:∀j d,j<ops.size->da9 ops j=some d->DS d)(hj:j<ops.size)(hsm:∀t,¬ DS t->ac.tmps[t]?=tm[t]?)(v:Value)(t:Nat)(ht:¬ DS t):(ac.put (da9 ops j) v).tmps[t]?=tm[t]?:=(Jb2 λe=>ht (hDS j t hj e)).trans (hsm t ht)
include hG0 hcalls hF hDS in
theorem Fc4{ac:Act}{i:Nat}{a:List a7}{H H':List b7}{b:Bool}{x:a7}{Q:Exit->Act->World->Prop}{K:Act->World->Prop}(hi:i<ops.size)
  (hI:wb9 DS tm ds W ρ0 H0 F0 w0 ⟨a,H⟩ ac w) (hg:Pc8 E a (pc1 ops i)=some b)
  (h1:b=true->(evalOp E a H (R6 tr E.P ops i)).run=some (x,H')) (h2:b=false->x=.v (.tuple #[])/\H'=H)
  (hK:∀ac' w',wb9 DS tm ds W ρ0 H0 F0 w0 ⟨putA a (da9 ops i) x,H'⟩ ac' w'->K ac' w'):wpOpIn Fe nn E.P ops Q i K ac w:=by
 obtain⟨hd,hsz,hsm,ρ,F,hAdv,hH,hA⟩:=hI;have hw:=Id1 (hD.guard i hi) hA hg;unfold wpOpIn;simp only[na4 hi,hw];cases b with
 |true =>
  rw[if_pos rfl];refine (qd9 (ac:={ ac with defers:=[] }) tr hA hH (hG0.adv hAdv) hcalls (h1 rfl)).inAny hF nn _ _ λx' w' hp=>?_
  obtain⟨ρ',F',a1,a2,a3⟩:=hp;exact hK _ _ ⟨(o2 _ _).trans hd,(Z0 _ _).trans hsz,wb9.puts hDS hi hsm _,ρ',F',hAdv.trans a1,a2,(hA.adv a1).putA _ a3⟩
 |false =>
  rw[if_neg (by simp)]
  obtain⟨e1,e2⟩:=h2 rfl;subst e1 e2;exact⟨λf _=>hF.fn f,hK _ _ ⟨(o2 _ _).trans hd,(Z0 _ _).trans hsz,wb9.puts hDS hi hsm _,ρ,F,hAdv,hH,hA.putA _ (.ofv _)⟩⟩
include hT hin hpairs hG0 hcalls hF hDS
theorem Nc2{m:Nat}{listed:Array Bool}{ac:Act}(hR:Ub5 DS tm ds W ρ0 H0 F0 w0 tr E ops s.a U T m listed ac w){i:Nat}(hi:i<ops.size)(hk:J1 tr E.P ops i=1)(hnx:¬ C3 listed i)(hdi:∀j∈D1 (Ca1 ops i),C3 listed j)
  {Q:Exit->Act->World->Prop} {K:Act->World->Prop} (hK:∀ac' w',Ub5 DS tm ds W ρ0 H0 F0 w0 tr E ops s.a U T m (listed.setIfInBounds i true) ac' w'->K ac' w'):wpOpIn Fe nn E.P ops Q i K ac w:=by
 obtain⟨b,x,g1,g2,g3,g4⟩:=Vc5 hD hT hi hk;have hread:=ed5 hD hT hR hi hnx hdi;have hne:J1 tr E.P ops i≠0:=by omega
 refine Fc4 hD hF hDS hG0 hcalls (H':=fa5 (T m).H (N2 tr E.P ops U listed)) hi hR.inv ((pc0 hread.left).symm.trans g1) (λhb=>?_) (λhb=>⟨g4 hb,rfl⟩) λac' w' hI'=>hK ac' w' ?_
 ·have he:=g3 hb;rw[sc9 _ hread.right] at he;refine (tc0 (Id4 hk) he).2 _ λid hid=>?_
  -- the block that is looked at stands in the heap at hand
  have hlive:∃b',(fa5 (T m).H (N2 tr E.P ops U listed))[id]?=some b'/\b'.dead=false:=by
   obtain⟨hd0,_,_,ρ,F,hAdv,hH,hA⟩:=hR.inv;have harg:∀(y:Arg),Vc1 y=true->id∈na3 (b8 E (Ya4 (T ops.size).a s.a (T9 ops listed)) y)->∃b',(fa5 (T m).H (N2 tr E.P ops U listed))[id]?=some b'/\b'.dead=false:=λy hy hm=>by
    cases y with
    |c z =>
     exfalso;have hm':id∈na3 z:=hm;cases z<;>first | (cases hm';done) | (cases hy;done)
    |g n =>
     exfalso;have hm':id∈na3 (.tptr (m8 .v (E.G n))):=hm;cases hm'
    |t n =>
     rw[lb5] at hm;cases hn:(Ya4 (T ops.size).a s.a (T9 ops listed))[n]? with
     |none=>rw[hn] at hm;cases hm
     |some u =>
     rw[hn] at hm;simp only[Option.getD_some] at hm;have hlt:n<ac.tmps.size:=hA.1 ▸ (Qab.1 hn).1;have hW:=hA.2 n u _ hn (Qac hlt);cases u with
     |ptr id' i c g =>
      have:id=id':=by simpa [na3] using hm
      subst this;obtain⟨_,b',_,h1,h2,_⟩:=Ha2 hW;exact⟨b',h1,h2⟩
     |sl id' off n g =>
      have:id=id':=by simpa [na3] using hm
      subst this;obtain⟨_,_,b',_,h1,h2,_⟩:=Ka1 hW;exact⟨b',h1,h2⟩
     |_=>cases hm
   have hbare:=hD.bare hi
   revert hbare hid
   generalize R6 tr E.P ops i=q;intro hid hbare;cases q with
   |load ks n agg y=>exact harg y hbare hid
   |idxS es y z=>exact harg y hbare hid
   |slice es y lo hi=>exact harg y hbare hid
   |_=>cases hid
  obtain⟨b',hb1,hb2⟩:=hlive;obtain⟨hnD,hb3⟩:=Td2 hb1 hb2;have huse:id∈Qa4 E (T ops.size).a (R6 tr E.P ops i):=by
   rw[<- ue2 hD hT hi,tc9 hread.right];exact hid
  -- nobody between touches it
  have hbetween:∀j,j<ops.size->J1 tr E.P ops j=2->r4 M i j=false->r4 M j i=false->id∉P9 E (T ops.size).a (R6 tr E.P ops j):=λj hj hkj h1 h2 =>
   cd2 hpairs (hD.pair hj hi hk hkj h2 h1) id huse
  have hlike:O7 (T i).H (T m).H id:=by
   rcases Qaq i m with him|him
   ·have := Td9 hD hT hin (id := id) (m - i) i (by have := hR.hm; omega) fun j h1 h2 hkj => by
     have hj:j<ops.size:=by have:=hR.hm;omega
     have hxj:=(hR.heavy j hj hkj).2 (by omega)
     refine hbetween j hj hkj ?_ ?_
     ·cases hc:r4 M i j with
      |false=>rfl
      |true=>exact absurd (Qa7 hD hR hj (hR.closed j hj hxj) hi hc) hnx
     ·cases hc:r4 M j i with
      |false=>rfl
      |true=>have:=Ib9 hD hi hj hc;omega
    grind
   ·have := Td9 hD hT hin (id := id) (i - m) m (by omega) fun j h1 h2 hkj => by
     have hj:j<ops.size:=by omega
     have hxj:¬ C3 listed j:=λh=>by have:=(hR.heavy j hj hkj).1 h;omega
     refine hbetween j hj hkj ?_ ?_
     ·cases hc:r4 M i j with
      |false=>rfl
      |true=>have:=Ib9 hD hj hi hc;omega
     ·cases hc:r4 M j i with
      |false=>rfl
      |true=>exact absurd (Qa7 hD hR hi hdi hj hc) hxj
    rw[show m+(i-m)=i by omega] at this
    intro b0 hb0;obtain⟨b2,h3,h4⟩:=this b' hb3
    have:b2=b0:=Qag (h3.symm.trans hb0)
    subst this;exact⟨b',hb3,h4.1.symm,h4.2.1.symm,h4.2.2.1.symm,h4.2.2.2.1.symm,h4.2.2.2.2.symm⟩
  refine hlike.trans λb0 hb0=>⟨b0,?_,.refl b0⟩
  grind
 ·refine Ub5.next hD hR hi hdi hR.hm (λj hj hkj=>?_) (x:=x) (λd hd hlt=>?_) ?_
  ·rw[N8 (hR.size ▸ hi)];rw[<- hR.heavy j hj hkj]
   grind
  ·rw[We7 hD hT hi hd,g2,hd];refine Vc4 ?_;rw[(Xb1 hD hT i (by omega)).2,<- (Xb1 hD hT ops.size (Qaf _)).2]
   exact hlt
  ·rw[rd7 hR.size hi hne];exact hI'
omit hpairs in
theorem Nc3{m:Nat}{listed:Array Bool}{ac:Act}(hR:Ub5 DS tm ds W ρ0 H0 F0 w0 tr E ops s.a U T m listed ac w){i:Nat}(hi:i<ops.size)(hk:J1 tr E.P ops i=2)(hnx:¬ C3 listed i)(hdi:∀j∈D1 (Ca1 ops i),C3 listed j)
  {Q:Exit->Act->World->Prop} {K:Act->World->Prop} (hK:∀ac' w',Ub5 DS tm ds W ρ0 H0 F0 w0 tr E ops s.a U T (i+1) (listed.setIfInBounds i true) ac' w'->K ac' w'):wpOpIn Fe nn E.P ops Q i K ac w:=by
 obtain⟨b,x,g1,g2,g3,g4⟩:=yd3 hD hT hin hi hk;have hread:=ed5 hD hT hR hi hnx hdi;have hne:J1 tr E.P ops i≠0:=by omega
 have hmi:m<=i:=by
  rcases Qaq i m with h|h
  ·exact absurd ((hR.heavy i hi hk).2 h) hnx
  ·exact h
 have hno:∀j,m<=j->j<i->J1 tr E.P ops j≠2:=λj h1 h2 hkj=>by
  have hj:j<ops.size:=by omega
  have:=(hR.heavy j hj hkj).1 (Qa7 hD hR hi hdi hj (hD.chain h2 hi hkj hk).1)
  omega
 have hsame:(T m).H=(T i).H:=by
  have:=Td8 hD hT (i-m) m (by omega) λj h1 h2=>hno j h1 (by omega)
  grind
 have hfin:∀{H':List b7} {ac':Act} {w':World},H'=fa5 (T (i+1)).H (N2 tr E.P ops U listed)->wb9 DS tm ds W ρ0 H0 F0 w0 ⟨putA (Ya4 (T ops.size).a s.a (T9 ops listed)) (da9 ops i) x,H'⟩ ac' w'->K ac' w':=λ{H' ac' w'} e hI'=>by
  refine hK ac' w' (Ub5.next hD hR hi hdi (by omega) (λj hj hkj=>?_) (x:=x) (λd hd hlt=>?_) ?_)
  ·rw[N8 (hR.size ▸ hi)];constructor
   ·rintro (h|h)
    ·have:=(hR.heavy j hj hkj).1 h;omega
    ·omega
   ·intro h;by_cases e:j=i
    ·exact .inr e
    ·refine .inl ((hR.heavy j hj hkj).2 ?_)
     rcases Qaq j m with h'|h'
     ·exact h'
     ·exact absurd hkj (hno j h' (by omega))
  ·rw[We7 hD hT hi hd,g2,hd];refine Vc4 ?_;rw[(Xb1 hD hT i (by omega)).2,<- (Xb1 hD hT ops.size (Qaf _)).2]
   exact hlt
  ·rw[rd7 hR.size hi hne,<- e];exact hI'
 cases b with
 |false =>
  obtain⟨h1,h2⟩:=g4 rfl;exact Fc4 hD hF hDS hG0 hcalls (x:=x) (H':=fa5 (T m).H (N2 tr E.P ops U listed)) hi hR.inv ((pc0 hread.left).symm.trans g1) (λh=>by cases h) (λ_=>⟨h1,rfl⟩) λac' w' hI'=>hfin (by rw[h2,hsame]) hI'
 |true =>
  obtain⟨hid,H',h5,h6,h7⟩:=g3 rfl;rw[sc9 _ hread.right] at h6;have hall:∀id∈hid,id<(T i).H.length:=λid hid'=>by
   obtain⟨b',k1,k2,k3,rfl⟩:=(h5 id).1 hid';exact ue3 hD hT hin hi hk k1 k2 k3
  have hsub:∀id,N2 tr E.P ops U listed id->id∈hid:=λid ⟨b',k1,k2,k3,k4⟩=>by
   refine (h5 id).2 ⟨b',k1,k2,?_,k4⟩;cases hc:r4 M b' i with
   |false=>rfl
   |true=>exact absurd (Qa7 hD hR hi hdi k1 hc) k3
  have hMono:E7 (·∈hid) (fa5 (T i).H (·∈hid)) (fa5 (T i).H (N2 tr E.P ops U listed)) (fa5 (T i).H (·∈hid)) (fa5 (T i).H (N2 tr E.P ops U listed)):=by
   refine⟨by rw[pb2,pb2],λid hn=>?_,λid b hm hb=>?_,λ_ _=>rfl,λ_ _=>rfl,λid h=>by rw[pb2];exact hall id h⟩
   ·rw[T8 (D:=(·∈hid)) hn,T8 λh=>hn (hsub id h)]
   ·rw[ra2 (D:=(·∈hid)) hm] at hb
    grind
  obtain⟨H2',h8,h9⟩:=hMono.evalOp (tc5 hk) h6;refine Fc4 hD hF hDS hG0 hcalls (x:=x) (H':=H2') hi hR.inv ((pc0 hread.left).symm.trans g1) (λ_=>by rw[hsame];exact h8) (λh=>by cases h) λac' w' hI'=>hfin ?_ hI'
  refine Qbp λid=>?_
  rw[h7];by_cases hm:id∈hid
  ·rw[h9.at2 id hm];have hr:=Ec3 (H0:=(T i).H) (H:=H') hm (hall id hm) (h9.bound id hm);by_cases hd:N2 tr E.P ops U listed id
   ·rw[ra2 hd,ra2 hd,hr]
   ·rw[T8 hd,T8 hd,hr]
  ·rw[<- h9.same id hm,T8 λh=>hm (hsub id h),bd8 hm]
end
section
variable{DS:Nat->Prop}{tm:Array Value}{ds:List Deferred}{Fe:Fence}{nn:Nat}
variable{W:Nat->Prop}{ρ0:Rho}{H0:List b7}{F0:Fz}{w0 w:World}
variable{tr:Nat}{E:Env}{ops:Array Oper}{M:List Nat}{ks:List (Nat×PI)}{s:St}{U T:Nat->St}
variable(hD:DC tr E.P ops M ks)(hT:cd1 E ops ks s U T)(hin:∀j,j<ops.size->J1 tr E.P ops j=0->∀d,da9 ops j=some d->d<s.a.length)(hlen:H0.length<=s.H.length)
variable(hF:FW Fe)(hDS:∀j d,j<ops.size->da9 ops j=some d->DS d)
include hD hT hin hlen
include hF hDS in
theorem Nc4(hG0:GOk E F0 w0)(hcalls:∀f,d9 E.P E.G f (E.call f)){m:Nat}{listed:Array Bool}{ac:Act}(hR:Ub5 DS tm ds W ρ0 H0 F0 w0 tr E ops s.a U T m listed ac w){i:Nat}(hi:i<ops.size)(hk:J1 tr E.P ops i=0)(hnx:¬ C3 listed i)(hdi:∀j∈D1 (Ca1 ops i),C3 listed j)
  {Q:Exit->Act->World->Prop} {K:Act->World->Prop} (hK:∀ac' w',Ub5 DS tm ds W ρ0 H0 F0 w0 tr E ops s.a U T m (listed.setIfInBounds i true) ac' w'->K ac' w'):wpOpIn Fe nn E.P ops Q i K ac w:=by
 obtain⟨d,hgn,hd,hevA,hU⟩:=zb6 hD hT hi hk;generalize hnb:xd6 (R6 tr E.P ops i)=NB at *
 have nbd:NB.dead=false:=hnb ▸ ke5 _;have nbg:NB.g=0:=hnb ▸ bf4 _;obtain⟨hd0,hsz,hsm,ρ,F,hAdv,hH,hA⟩:=hR.inv
 simp only at hAdv hH hA
 generalize hHS:fa5 (T m).H (N2 tr E.P ops U listed)=HS at hAdv hH hA;have hHSlen:HS.length=(T m).H.length:=by rw[<- hHS,pb2]
 have his:i<listed.size:=by rw[hR.size];exact hi
 -- the block stands in the text's heap,asq it was made
 have hblk:(T m).H[(U i).H.length]?=some (NB):=by
  have h1:=yd4 hD hT hin hi hk m hR.hm λh h1 h2=>by
   cases hc:r4 M i h with
   |false=>rfl
   |true =>
    have hh:h<ops.size:=by have:=hR.hm;omega
    exact absurd (Qa7 hD hR hh (hR.closed h hh ((hR.heavy h hh h2).2 h1)) hi hc) hnx
  rw[h1,Td7 hD hT hi hk,hnb]
 have hidlt:(U i).H.length<HS.length:=by rw[hHSlen];exact (Qab.1 hblk).1
 have hidge:s.H.length<=(U i).H.length:=(Td6 hD hT (by omega)).1
 have hdead:N2 tr E.P ops U listed (U i).H.length:=⟨i,hi,hk,hnx,rfl⟩;have hinj:∀b,b<ops.size->J1 tr E.P ops b=0->(U i).H.length=(U b).H.length->b=i:=λb hb hkb he=>by
  rcases Nat.lt_trichotomy b i with h|h|h
  ·have:=lf7 hD hT h (by omega) hkb;omega
  ·exact h
  ·have:=lf7 hD hT h (by omega) hk;omega
 have hdead':∀id,N2 tr E.P ops U (listed.setIfInBounds i true) id↔N2 tr E.P ops U listed id/\id≠(U i).H.length:=λid=>by
  constructor
  ·rintro⟨b,h1,h2,h3,h4⟩;refine⟨⟨b,h1,h2,λh=>h3 ((N8 his).2 (.inl h)),h4⟩,λe=>h3 ((N8 his).2 (.inr ?_))⟩
   exact hinj b h1 h2 (e.symm.trans h4)
  ·rintro⟨⟨b,h1,h2,h3,h4⟩,h5⟩;refine⟨b,h1,h2,λh=>?_,h4⟩
   rcases (N8 his).1 h with h|h
   ·exact h3 h
   ·subst h;exact h5 h4
 generalize hHS':fa5 (T m).H (N2 tr E.P ops U (listed.setIfInBounds i true))=HS';have hoff:∀id,id≠(U i).H.length->HS'[id]?=HS[id]?:=λid hne=>by
  rw[<- hHS',<- hHS];by_cases h:N2 tr E.P ops U listed id
  ·rw[ra2 h,ra2 ((hdead' id).2 ⟨h,hne⟩)]
  ·rw[T8 h,T8 λh'=>h ((hdead' id).1 h').1]
 have hon:HS'[(U i).H.length]?=some (NB):=by
  rw[<- hHS',T8 λh'=>((hdead' _).1 h').2 rfl]
  exact hblk
 have hHSdead:∀b,HS[(U i).H.length]?=some b->b.dead=true:=λb hb=>by
  rw[<- hHS,ra2 hdead] at hb;simp only[Qbl] at hb;obtain⟨c,_,rfl⟩:=hb;rfl
 -- the operation
 have hev:=hevA (Ya4 (T ops.size).a s.a (T9 ops listed)) HS;unfold wpOpIn;have hw:Region.wanted (Ca1 ops i) (yielded ops ac.tmps)=true:=by simp[Region.wanted,hgn]
 simp only[na4 hi,hw];rw[if_pos trivial];refine (qd9 (ac:={ ac with defers:=[] }) (ops:=ops) tr hA hH (hG0.adv hAdv) hcalls hev).inAny hF nn _ _ (λx' w' hp=>hK _ _ (Ub5.next hD hR hi hdi hR.hm (λj hj hkj=>?_) (x:=Pc9 (R6 tr E.P ops i) (U i).H.length) (λd' hd' hlt=>?_) ?_))
 ·rw[N8 his,<- hR.heavy j hj hkj]
  grind
 ·refine yd1 hD hT hi hk hd' ?_ (Qaf _)
  grind
 ·obtain⟨ρ',F',a1,a2,a3⟩:=hp;rw[hHS'];have hadv:=hAdv.trans a1
  let ρ2:Rho:=λid=>if id=(U i).H.length then ρ' HS.length else ρ' id
  have hρ2:∀id,id≠(U i).H.length->ρ2 id=ρ' id:=λid h=>if_neg h
  have hρ2':ρ2 (U i).H.length=ρ' HS.length:=if_pos rfl;have hold:∀id b,HS'[id]?=some b->id≠(U i).H.length->(HS++[NB])[id]?=some b:=λid b hb hne=>by
   rw[hoff id hne] at hb;rw[Qbb (Qab.1 hb).1];exact hb
  have hN:(HS++[NB])[HS.length]?=some (NB):=by simp
  refine⟨(o2 _ _).trans hd0,(Z0 _ _).trans hsz,wb9.puts hDS hi hsm _,ρ2,F',⟨hadv.ext,λid b hb=>?_,hadv.more,hadv.new,λid b' hb' hn=>?_⟩,?_,?_⟩
  ·have hidH:id<s.H.length:=by have:=(Qab.1 hb).1;omega
   have hne:id≠(U i).H.length:=by omega
   obtain⟨b',h1,h2⟩:=hadv.heap id b hb
   grind
  ·by_cases he:id=(U i).H.length
   ·subst he;rw[hρ2'];exact hadv.fresh HS.length _ hN λb hb=>by have:=(Qab.1 hb).1;omega
   ·rw[hρ2 id he];exact hadv.fresh id b' (hold id b' hb' he) hn
  ·refine a2.pull (λid=>if id=(U i).H.length then HS.length else id) (λid b hb hdd=>?_) λid id' b b' hb hdd hb' hdd' he=>?_
   ·grind
   grind
  ·have hA2 : va8 ρ2 HS' F' w' (Ya4 (T ops.size).a s.a (T9 ops listed)) ac.tmps := by
    refine hA.carry (λid b hb hdd=>?_) a1.more a1.ext.cells
    have hne:id≠(U i).H.length:=λe=>by
     subst e;rw[hHSdead b hb] at hdd;cases hdd
    obtain⟨b',h1,h2,h3,h4⟩:=a1.heap id b hb
    grind
   have hW:C9 ρ2 HS' F' w' (Pc9 (R6 tr E.P ops i) (U i).H.length) x':=by
    have hV:Pc9 (R6 tr E.P ops i) HS.length=.ptr HS.length 0 0 0/\Pc9 (R6 tr E.P ops i) (U i).H.length=.ptr (U i).H.length 0 0 0\/Pc9 (R6 tr E.P ops i) HS.length=.sl HS.length 0 0 0/\Pc9 (R6 tr E.P ops i) (U i).H.length=.sl (U i).H.length 0 0 0:=by
     cases R6 tr E.P ops i<;>first | exact .inl ⟨rfl,rfl⟩ | exact .inr ⟨rfl,rfl⟩
    rcases hV with⟨v1,v2⟩|⟨v1,v2⟩
    ·rw[v1] at a3;rw[v2];obtain⟨ad,b,e,h1,h2,h3,h4⟩:=Ha2 a3
     have:b=NB:=Qag (h1.symm.trans hN)
     subst this;rw[e];refine .val (.cell (.ptr _ 0 0 0 ad _ hon nbd (Qbw _) λhg=>?_))
     rw[hρ2'];exact h4 hg
    ·rw[v1] at a3;rw[v2];obtain⟨ad,cap,b,e,h1,h2,h3,h4,h5,h6,h7⟩:=Ka1 a3
     have:b=NB:=Qag (h1.symm.trans hN)
     subst this;rw[e];refine .val (.cell (.sl _ 0 0 0 ad cap _ hon nbd (Qbw _) h4 h5 h6 λhg=>?_))
     rw[hρ2'];exact h7 hg
   exact hA2.putA (da9 ops i) hW
omit hin in
theorem Nc5{ac:Act}(hI:wb9 DS tm ds W ρ0 H0 F0 w0 s ac w) :
  Ub5 DS tm ds W ρ0 H0 F0 w0 tr E ops s.a U T 0 (Array.replicate ops.size false) ac { w with drawn:=w.drawn+1 }:=by
 have hnx:∀j,j<ops.size->¬ C3 (Array.replicate ops.size false) j:=λj hj h=>by
  unfold C3 at h;simp[Array.getD,hj] at h
 obtain⟨hd0,hsz,hsm,ρ,F,hAdv,hH,hA⟩:=hI;have hdead:∀id,N2 tr E.P ops U (Array.replicate ops.size false) id->s.H.length<=id:=λid ⟨b,h1,_,_,h4⟩=>by
  have:=(Td6 hD hT (j:=b) (by omega)).1
  omega
 have hlow:∀id,id<s.H.length->(fa5 (T 0).H (N2 tr E.P ops U (Array.replicate ops.size false)))[id]?=s.H[id]?:=λid hid=>by
  rw[T8 λh=>by have:=hdead id h;omega,hT.t0]
  exact (Td6 hD hT (Qaf _)).2 id hid
 have hhigh:∀id b,(fa5 (T 0).H (N2 tr E.P ops U (Array.replicate ops.size false)))[id]?=some b->s.H.length<=id->b.dead=true:=λid b hb hge=>by
  have hlt:id<(T 0).H.length:=by
   have:=(Qab.1 hb).1
   rwa [pb2] at this
  rw[hT.t0] at hlt;obtain⟨j,h1,h2,h3⟩:=ue1 hD hT ops.size (Qaf _) id hge hlt;rw[ra2 (show N2 tr E.P ops U (Array.replicate ops.size false) id from ⟨j,h1,h2,hnx j h1,h3⟩)] at hb
  simp only[Qbl] at hb;obtain⟨c,_,rfl⟩:=hb;rfl
 have hH':C1 W ρ s.H F { w with drawn:=w.drawn+1 }:=hH.same rfl
 have hAdv':Adv W ρ0 H0 F0 w0 ρ s.H F { w with drawn:=w.drawn+1 }:=hAdv.trans (.same rfl rfl rfl rfl (Nat.le_succ _))
 let ρ1:Rho:=λid=>if id<s.H.length then ρ id else ⟨w.heap.size,0,0⟩
 have hρ1:∀id,id<s.H.length->ρ1 id=ρ id:=λid h=>if_pos h
 have hlive:∀id b,(fa5 (T 0).H (N2 tr E.P ops U (Array.replicate ops.size false)))[id]?=some b->b.dead=false->id<s.H.length:=λid b hb hd=>by
  rcases Qaq id s.H.length with h|h
  ·exact h
  ·rw[hhigh id b hb h] at hd;cases hd
 refine⟨by simp,λj hj hx=>absurd hx (hnx j hj),Qbw _,λj hj _=>⟨λh=>absurd h (hnx j hj),λh=>by omega⟩,hd0,hsz,hsm,ρ1,F,⟨hAdv'.ext,λid b hb=>?_,hAdv'.more,hAdv'.new,λid b hb hn=>?_⟩,?_,?_⟩
 ·have hid:id<s.H.length:=by have:=(Qab.1 hb).1;omega
  obtain⟨b',h1,h2⟩:=hAdv'.heap id b hb
  simp_all
 ·simp only at hb
  by_cases hid:id<s.H.length
  ·rw[hlow id hid] at hb;rw[hρ1 id hid];exact hAdv'.fresh id b hb hn
  ·show W (if id<s.H.length then ρ id else ⟨w.heap.size,0,0⟩).blk
   rw[if_neg hid];exact hH.new _ (Qaf _)
 ·refine hH'.pull (λid=>id) (λid b hb hd=>?_) λ_ _ _ _ _ _ _ _ h=>h
  grind
 ·have hcarry : rd6 ρ s.H ρ1 (fa5 (T 0).H (N2 tr E.P ops U (Array.replicate ops.size false))) := fun id b hb hd => by
   have hid:=(Qab.1 hb).1;exact⟨b,(hlow id hid).trans hb,hd,Qaf _,λ_=>⟨hρ1 id hid,rfl,Qaf _⟩⟩
  refine⟨by rw[Za3,(Xb1 hD hT ops.size (Qaf _)).2];exact hA.1,λt x x' hx hx'=>?_⟩
  simp only at hx
  by_cases ht:T9 ops (Array.replicate ops.size false) t
  ·have hlt : t < (T ops.size).a.length := by
    have:=(Qab.1 hx).1
    rwa [Za3] at this
   rw[tc3 ht hlt] at hx;injection hx with hx;rw[(Xb1 hD hT ops.size (Qaf _)).2] at hlt;rw[Qaa hlt,Option.getD_some] at hx;exact C9.carry (w:=w) (w':={ w with drawn:=w.drawn+1 }) hcarry (λ_ _ h=>h) (λ_ _ _=>rfl) (hA.2 t x x' (by rw[<- hx];exact Qaa hlt) hx')
  ·rw[Za4 ht] at hx;have hno:∀j,j<ops.size->da9 ops j≠some t:=λj hj he=>ht ⟨j,hj,he,hnx j hj⟩
   have h1:=pc2 hD hT (t:=t) ops.size 0 (by omega) λj _ h2 _=>hno j (by omega)
   have h2:=yd0 hD hT (t:=t) ops.size 0 (by omega) λj _ h2 _=>hno j (by omega)
   rw[Qar] at h1 h2;rw[h1,hT.t0,h2,hT.u0] at hx;exact C9.carry (w:=w) (w':={ w with drawn:=w.drawn+1 }) hcarry (λ_ _ h=>h) (λ_ _ _=>rfl) (hA.2 t x x' hx hx')
omit hin hlen in
theorem gc0{m:Nat}{listed:Array Bool}{ac:Act}(hR:Ub5 DS tm ds W ρ0 H0 F0 w0 tr E ops s.a U T m listed ac w)(hall:∀j,j<ops.size->C3 listed j):wb9 DS tm ds W ρ0 H0 F0 w0 (T ops.size) ac w:=by
 have h1:Ya4 (T ops.size).a s.a (T9 ops listed)=(T ops.size).a:=Td3 λt ⟨j,h1,_,h3⟩=>h3 (hall j h1)
 have h2:fa5 (T m).H (N2 tr E.P ops U listed)=(T ops.size).H:=by
  rw[Td4 λid ⟨b,h1,_,h3,_⟩=>h3 (hall b h1)]
  have:=Td8 hD hT (ops.size-m) m (by have:=hR.hm;omega) λj h3 h4 hk=>by
   have hj:j<ops.size:=by have:=hR.hm;omega
   have:=(hR.heavy j hj hk).1 (hall j hj)
   omega
  rw[show m+(ops.size-m)=ops.size by have:=hR.hm;omega] at this
  exact this.symm
 have h3:=hR.inv;rw[h1,h2] at h3;exact h3
variable(hpairs:Ha1 E (T ops.size).a (Aa5 ops.size M ks)=true)(hG0:GOk E F0 w0)(hcalls:∀f,d9 E.P E.G f (E.call f))
include hpairs hG0 hcalls hF hDS
theorem gc1{Q:Exit->Act->World->Prop}(hQ:∀ac' w',wb9 DS tm ds W ρ0 H0 F0 w0 (T ops.size) ac' w'->Q .normal ac' w'):∀(fuel m:Nat) (listed:Array Bool) (ac:Act) (w:World),Ub5 DS tm ds W ρ0 H0 F0 w0 tr E ops s.a U T m listed ac w->F7 listed<=fuel->wpAnyIn Fe nn E.P .any ops Q fuel listed ac w
 |0,m,listed,ac,w,hR,hc=>by
  have hall:∀j,C3 listed j:=Ua5 (by omega)
  refine⟨?_,hQ _ _ (gc0 hD hT hR λj _=>hall j)⟩
  rw[Qec];intro i hi;exact (Nb9 hi).2.1 (hall i)
 |fuel+1,m,listed,ac,w,hR,hc=>by
  refine⟨λh=>hQ _ _ (gc0 hD hT hR (rd8 hD hR.size h)),λi hi=>?_⟩
  obtain⟨h1,h2,h3⟩:=Nb9 hi;have hdi:∀j∈D1 (Ca1 ops i),C3 listed j:=λj hj=>h3 hR.size j hj (by have:=fc6 hD.rows (na4 h1) hj;omega)
  have hcount:F7 (listed.setIfInBounds i true)<=fuel:=by
   have his:i<listed.size:=by rw[hR.size];exact h1
   have hf:listed.toList[i]?=some false:=by
    have:listed.getD i true=false:=by unfold C3 at h2;simpa using h2
    simp_all
   have:=Ka7 listed.toList i hf
   unfold F7 at hc ⊢
   grind
  rcases Ib8 (tr:=tr) (P:=E.P) (ops:=ops) i with hk|hk|hk
  ·exact Nc4 hD hT hin hlen hF hDS hG0 hcalls hR h1 hk h2 hdi λac' w' hR'=>gc1 hQ fuel m _ ac' w' hR' hcount
  ·exact Nc2 hD hT hin hpairs hF hDS hG0 hcalls hR h1 hk h2 hdi λac' w' hR'=>gc1 hQ fuel m _ ac' w' hR' hcount
  ·exact Nc3 hD hT hin hF hDS hG0 hcalls hR h1 hk h2 hdi λac' w' hR'=>gc1 hQ fuel (i+1) _ ac' w' hR' hcount
end
section
variable{DS:Nat->Prop}{tm:Array Value}{ds:List Deferred}{Fe:Fence}{nn:Nat}{E:Env}
theorem ee0(hF:FW Fe)(hm:E.P.follows .mixedOrders=true)(hcalls:∀f,d9 E.P E.G f (E.call f)){W:Nat->Prop}{ρ0:Rho}{H0:List b7}{F0:Fz}{w0:World}{k:Nat}(hG0:GOk E F0 w0)
  {id:Nat} {ops:Array Oper} {s:St} {x:d8} {s':St} (hDS:∀j d,j<ops.size->da9 ops j=some d->DS d) (hlen:H0.length<=s.H.length)
  (he:(E2 E k (Ja3 E.P ops) s).run=some (x,s')) {ac:Act} {w:World} {Q:Exit->Act->World->Prop} (hI:wb9 DS tm ds W ρ0 H0 F0 w0 s ac w)
  (hQ:∀ac' w',wb9 DS tm ds W ρ0 H0 F0 w0 s' ac' w'->Q (toX x) ac' w'):(Code.region id ops true).wpIn Fe nn E.P Q ac w:=by
 have hdr:∃dsts asq l ps,Ja3 E.P ops=.draw dsts asq l ps:=by
  unfold Ja3 at he ⊢;have hT:∀tr,(∃a b c d,Ua3 tr E.P ops=.draw a b c d)\/Ua3 tr E.P ops=.bad:=λtr=>by
   unfold Ua3
   simp only
   cases Ed9 tr E.P ops (Region.before ops).toList 0 ops.toList with
   |none=>exact .inr rfl
   |some ks =>
    simp only[Zc9];split
    ·exact .inl ⟨_,_,_,_,rfl⟩
    ·exact .inr rfl
  revert he
  rcases hT 0 with⟨a,b,c,d,h0⟩|h0<;>rw[h0]<;>intro he
  ·exact⟨_,_,_,_,rfl⟩
  ·revert he
   rcases hT 1 with⟨a,b,c,d,h1⟩|h1<;>rw[h1]<;>intro he
   ·exact⟨_,_,_,_,rfl⟩
   ·revert he
    rcases hT 2 with⟨a,b,c,d,h2⟩|h2<;>rw[h2]<;>intro he
    ·exact⟨_,_,_,_,rfl⟩
    ·cases he
 obtain⟨dsts,asq,l,ps,hc⟩:=hdr;rw[hc] at he;obtain⟨tr,M,ks,hD,rfl,rfl,rfl,rfl⟩:=Id3 hc
 have he' : ((L1 E ((List.range ops.size).filterMap (zb3 ks)) s).bind fun s => (L1 E ((List.range ops.size).filterMap (jc3 ks)) s).bind fun s =>
   Bool.rec (motive:=λ_=>DT (d8×St)) .fail (Bool.rec (motive:=λ_=>DT (d8×St)) .fail (.ret (.normal,s)) (yb9 s.a ((List.range ops.size).filterMap (zb3 ks)))) (Ha1 E s.a (Aa5 ops.size M ks))).run=some (x,s'):=he
 obtain⟨s1,h1,h2⟩:=DT.run_bind_some he';obtain⟨s2,h3,h4⟩:=DT.run_bind_some h2;obtain⟨U,u0,u1,u2⟩:=Ua4 _ _ _ _ h1;obtain⟨T,t0,t1,t2⟩:=Ua4 _ _ _ _ h3;have hT:cd1 E ops ks s U T:=⟨u0,u2,t0.trans u1.symm,t2⟩;cases hp:Ha1 E s2.a (Aa5 ops.size M ks) with
 |false=>rw[hp] at h4;cases h4
 |true =>
 rw[hp] at h4
 simp only at h4
 cases hs:yb9 s2.a ((List.range ops.size).filterMap (zb3 ks)) with
 |false=>rw[hs] at h4;cases h4
 |true =>
 rw[hs] at h4;have h4':some (d8.normal,s2)=some (x,s'):=h4;injection h4' with h4';injection h4' with e1 e2;subst e1 e2
 rw[<- t1] at hp hs hQ;have hin:∀j,j<ops.size->J1 tr E.P ops j=0->∀d,da9 ops j=some d->d<s.a.length:=λj hj hk d hd=>by
  rw[<- (Xb1 hD hT ops.size (Qaf _)).2];refine pc3 hs (ic5 tr E.P ops M j) ?_ d hd;rw[Qci];exact⟨j,Qca.2 hj,(xd7 hD hj hk).1⟩
 refine wpIn_region_any hm (gc1 hD hT hin hlen hF hDS hp hG0 hcalls hQ ops.size 0 _ ac _ (Nc5 hD hT hlen hI) ?_);unfold F7;simp
end
section
variable{P:Program}{WB K:Nat->Prop}{J:List Value->World->Prop}{ρ0:Rho}{H0:List b7}{F0:Fz}{w w0:World}{s:St}{ac:Act}{E:Env}
theorem ye9{Fe:Fence}{n m kk id:Nat}(hm:E.P.follows .mixedOrders=true)(hF:FW Fe)(hG0:GOk E F0 w0)(hcalls:∀f,d9 E.P E.G f (E.call f))(hJ:Xb9 K J){ops:Array Oper}{Q:Exit->Act->World->Prop}{x:d8}{s':St}
  (hI:dd6 E.P WB K J n ρ0 H0 F0 w0 s ac w) (he:(E2 E kk (.mask n (ops.toList.filterMap (·.dst)) (Ja3 E.P ops)) s).run=some (x,s'))
  (hQ:∀ac' w',dd6 E.P WB K J n ρ0 H0 F0 w0 s' ac' w'->ac'.defers=ac.defers->(∀t,¬ t∈ops.toList.filterMap (·.dst)->ac'.tmps[t]?=ac.tmps[t]?)->Q (toX x) ac' w'):(Code.region id ops true).wpIn Fe m E.P Q ac w:=by
 obtain⟨ρ,F,W',up,hI⟩:=hI;have he':((E2 E kk (Ja3 E.P ops) ⟨m8 (da5 s.H) (E1 s.a n),i6 s.H⟩).bind λr=>.guard (Ub3 s.H r.2.H) (.ret (r.1,⟨ka3 (ops.toList.filterMap (·.dst)) s.a r.2.a 0,p7 s.H r.2.H⟩))).run=some (x,s'):=he
 obtain⟨⟨x1,s1⟩,h1,h2⟩:=DT.run_bind_some he';obtain⟨ho,h2⟩:=DT.run_guard_some h2;have h2:some (x1,(⟨ka3 (ops.toList.filterMap (·.dst)) s.a s1.a 0,p7 s.H s1.H⟩:St))=some (x,s'):=h2;injection h2 with h2;injection h2 with e1 e2;subst e1 e2
 have hG:GOk E F w:=hG0.adv hI.core.adv;refine ee0 (DS:=(·∈ops.toList.filterMap (·.dst))) (tm:=ac.tmps) (ds:=ac.defers) (W:=W') (ρ0:=ρ) (H0:=i6 s.H) (F0:=F) (w0:=w) hF hm hcalls hG (λj d hj hd=>?_) (Qaf _) h1 ⟨rfl,rfl,λ_ _=>rfl,ρ,F,.refl,hI.core.hrel,hI.arel⟩ λac' w' hM=>?_
 ·refine Qci.2 ⟨Ca1 ops j,?_,hd⟩
  have:=na4 hj
  grind
 ·obtain⟨k1,k2,k3⟩:=Ec6 hJ hI ho hM;exact hQ ac' w' k1 k2 k3
end
structure Ord(ops:Array Oper)(m:Nat):Prop where
 sz:ops.size=m+1
 dep:∀j,j<=m->∀i∈D1 (opO ops j),i<j
 pur:∀j,j<m->kc0 (opO ops j)=true
 uni:∀i j,i<m->j<m->i≠j->(opO ops i).dst≠(opO ops j).dst
 cov:∀i,i<m->∃j,i<j/\j<=m/\i∈D1 (opO ops j)
 use:∀j,j<m->∀x∈(opO ops j).op.operands,∀t,x=.tmp t->∀i,i<m->(opO ops i).dst=some t->i∈D1 (opO ops j)
theorem df9{ops:Array Oper}(h:Ec8 ops=true):Ord ops (ops.size-1):=by
 simp only[Ec8,Qas,Qcb,Qca,Qcf,List.any_eq_true] at h;obtain⟨⟨h0,h1⟩,h2⟩:=h;have hd:∀i j,i<j->j<ops.size-1->(opO ops i).dst≠(opO ops j).dst:=λi j hij hj=>by
  have:=(h2 j hj).2.2.1 i hij
  simpa using this
 refine⟨by omega,λj hj i hi=>h1 j (by omega) i hi,λj hj=>(h2 j hj).1,λi j hi hj hne=>?_,λi hi=>?_,λj hj x hx t e i hi ed=>?_⟩
 ·rcases Nat.lt_or_gt_of_ne hne with k|k
  ·exact hd i j k hj
  ·exact (hd j i k hi).symm
 ·obtain⟨k,hk,hik,hc⟩:=(h2 i hi).2.2.2.1;exact⟨k,hik,by omega,Qee.1 hc⟩
 ·have:=(h2 j hj).2.2.2.2 x (Array.mem_toList_iff.2 hx)
  subst e;simp only[Qcb,Qca,Qcg] at this
  rcases this i hi with k|k
  ·rw[ed] at k;simp at k
  ·exact Qee.1 k
section
variable{ops:Array Oper}{m:Nat}{a0:Act}{V:Nat->Value}{L L':Nat->Prop}{ac ac':Act}
structure Pt(ops:Array Oper)(m:Nat)(a0:Act)(V:Nat->Value)(L:Nat->Prop)(ac:Act):Prop where
 dz:ac.defers=a0.defers
 sz:ac.tmps.size=a0.tmps.size
 on:∀i t,i<m->L i->(opO ops i).dst=some t->t<a0.tmps.size->ac.tmps[t]?=some (V i)
 off:∀t,(∀i,i<m->L i->(opO ops i).dst≠some t)->ac.tmps[t]?=a0.tmps[t]?
theorem Pt.agree(h:Pt ops m a0 V L ac)(h':Pt ops m a0 V L' ac'){t:Nat}(hb:∀i,i<m->(opO ops i).dst=some t->(L i↔L' i)):ac.tmps[t]?=ac'.tmps[t]?:=by
 by_cases hx:∃i,i<m/\L i/\(opO ops i).dst=some t
 ·obtain⟨i,h1,h2,h3⟩:=hx;by_cases ht:t<a0.tmps.size
  ·rw[h.on i t h1 h2 h3 ht,h'.on i t h1 ((hb i h1 h3).1 h2) h3 ht]
  ·rw[Qed (by rw[h.sz];omega),Qed (by rw[h'.sz];omega)]
 ·rw[h.off t λi h1 h2 h3=>hx ⟨i,h1,h2,h3⟩,h'.off t λi h1 h2 h3=>hx ⟨i,h1,(hb i h1 h3).2 h2,h3⟩]
theorem Pt.same(h:Pt ops m a0 V L ac)(h':Pt ops m a0 V L' ac')(hb:∀i,i<m->(L i↔L' i)):ac=ac':=by
 have e:ac.tmps=ac'.tmps:=Qeg λt=>h.agree h' λi hi _=>hb i hi
 have d:ac.defers=ac'.defers:=h.dz.trans h'.dz.symm;cases ac;cases ac'
 simp only at e d
 rw[e,d]
theorem Pt.eval(h:Pt ops m a0 V L ac)(h':Pt ops m a0 V L' ac'){x:Operand}(hb:∀t,x=.tmp t->∀i,i<m->(opO ops i).dst=some t->(L i↔L' i)):ac.eval x=ac'.eval x:=by
 cases x with
 |tmp t =>
  show ac.tmps.getD t undef=ac'.tmps.getD t undef
  have:=h.agree h' (t:=t) (hb t rfl)
  simp only[Array.getD_eq_getD_getElem?,this]
 |const v=>rfl
 |func f=>rfl
 |global g=>rfl
theorem Pt.put(hO:Ord ops m)(h:Pt ops m a0 V L ac){j:Nat}(hj:j<m):Pt ops m a0 V (λi=>L i\/i=j) (ac.put (opO ops j).dst (V j)):=by
 refine⟨(o2 _ _).trans h.dz,(by cases hd:(opO ops j).dst<;>simp[Act.put,h.sz]),λi t hi hl hd ht=>?_,λt hn=>?_⟩
 ·by_cases e:i=j
  ·subst e;rw[hd];simp[Act.put,h.sz,ht]
  ·have hne:(opO ops j).dst≠some t:=λk=>hO.uni i j hi hj e (hd.trans k.symm)
   have:(ac.put (opO ops j).dst (V j)).tmps[t]?=ac.tmps[t]?:=by
    cases hdj:(opO ops j).dst with
    |none=>rfl
    |some d=>exact Qea λk=>hne (by rw[hdj,k])
   rw[this];exact h.on i t hi (hl.resolve_right e) hd ht
 ·have hne:=hn j hj (.inr rfl)
  have:(ac.put (opO ops j).dst (V j)).tmps[t]?=ac.tmps[t]?:=by
   cases hdj:(opO ops j).dst with
   |none=>rfl
   |some d=>exact Qea λk=>hne (by rw[hdj,k])
  rw[this];exact h.off t λi hi hl=>hn i hi (.inl hl)
theorem Pt.iff(h:Pt ops m a0 V L ac)(hb:∀i,i<m->(L i↔L' i)):Pt ops m a0 V L' ac :=
 ⟨h.dz,h.sz,λi t hi hl=>h.on i t hi ((hb i hi).2 hl),λt hn=>h.off t λi hi hl=>hn i hi ((hb i hi).1 hl)⟩
theorem Pt.val{V':Nat->Value}(h:Pt ops m a0 V L ac)(hb:∀i,i<m->L i->V i=V' i):Pt ops m a0 V' L ac :=
 ⟨h.dz,h.sz,λi t hi hl hd ht=>by rw[<- hb i hi hl];exact h.on i t hi hl hd ht,h.off⟩
end
section
variable{ops:Array Oper}{m:Nat}{P:Program}{Fe:Fence}{n:Nat}{Q:Exit->Act->World->Prop}{a0:Act}{w:World}
theorem Za9{j:Nat}(h:j<ops.size):ops[j]?=some (opO ops j):=by simp[opO,Array.getD,h]
theorem pc6{o:Oper}(h:kc0 o=true):o.guard=none:=by
 unfold kc0 at h;rw[Qas] at h;cases hg:o.guard with
 |none=>rfl
 |some g=>rw[hg] at h;cases h.1
theorem Yb7{o:Oper}(h:kc0 o=true):(∀cs b,o.op≠.select cs b)/\∀c,o.op≠.defer c:=by
 unfold kc0 at h;rw[Qas] at h;exact⟨λcs b e=>(by rw[e] at h;cases h.2),λc e=>(by rw[e] at h;cases h.2)⟩
theorem chain(hO:Ord ops m)(hQ:∀c a w,¬ Q (.panic c) a w)(h:wpOpsIn Fe n P ops Q (List.range' 0 ops.size) a0 w):∀k,k<=m->∃V,(∃ac,Pt ops m a0 V (· < k) ac/\wpOpsIn Fe n P ops Q (List.range' k (ops.size-k)) ac w) /\
  ∀j,j<k->∃ac,Pt ops m a0 V (· < j) ac/\(execOp ac.eval (opO ops j)).run P w=.ok (.value (V j)) w
 |0,_=>⟨λ_=>undef,⟨a0,⟨rfl,rfl,λi t _ hl=>absurd hl (Nat.not_lt_zero _),λt _=>rfl⟩,h⟩,λj hj=>absurd hj (Nat.not_lt_zero _)⟩
 |k+1,hk=>by
  obtain⟨V,⟨ac,hp,hw⟩,hs⟩:=chain hO hQ h k (by omega)
  have hkm:k<m:=by omega
  have hpur:=hO.pur k hkm;have hsz:=hO.sz;rw[show ops.size-k=(ops.size-(k+1))+1 by omega,List.range'_succ,wpOpsIn_cons] at hw
  unfold wpOpIn at hw;rw[Za9 (show k<ops.size by omega)] at hw
  simp only[Region.wanted,pc6 hpur,if_true] at hw;have hw:=hw.2;rw[Oper.semAt_eq _ _ _ (Yb7 hpur).2] at hw;cases hr:(execOp ac.eval (opO ops k)).run P w with
  |halt c w' =>
   rw[hr] at hw;cases c<;>first | exact hw.elim | exact (hQ _ _ _ hw).elim
  |ok x w' =>
   obtain⟨⟨v,rfl⟩,rfl⟩:=xe3 hpur hr;rw[hr] at hw;have hw:wpOpsIn Fe n P ops Q (List.range' (k+1) (ops.size-(k+1))) (ac.put (opO ops k).dst v) w':=hw;refine⟨λi=>if i=k then v else V i,⟨_,(Pt.put hO ((hp.val (V':=λi=>if i=k then v else V i)) λi _ hl=>?_) hkm).iff λi hi=>?_,?_⟩,λj hj=>?_⟩
   ·have:i<k:=hl
    rw[if_neg (by omega)]
   ·show (i<k\/i=k)↔i<k+1;omega
   ·rw[if_pos rfl];exact hw
   ·by_cases e:j=k
    ·subst e;exact⟨ac,hp.val λi _ hl=>(by rw[if_neg (Qan hl)]),by simpa using hr⟩
    ·obtain⟨acj,h1,h2⟩:=hs j (by omega)
     refine⟨acj,h1.val λi _ hl=>?_,by simpa [e] using h2⟩
     have:i<j:=hl
     rw[if_neg (by omega)]
theorem ne3(hO:Ord ops m){listed:Array Bool}(hsz:listed.size=ops.size):∀j,j<=m->¬ C3 listed j->∃i,i∈Region.ready .any ops listed:=by
 intro j
 induction j using Nat.strongRecOn with
 |_ j ih =>
  intro hj hn;by_cases hd:∀i∈D1 (opO ops j),C3 listed i
  ·refine⟨j,mem_ready.2 ⟨?_,opO ops j,Za9 (by have:=hO.sz;omega),λe he hb=>?_⟩⟩
   ·unfold C3 at hn;cases h:listed.getD j true with
    |false=>rfl
    |true=>exact absurd h hn
   ·have hx:=hd e.on (Qa6.2 ⟨e,he,hb,rfl⟩);have hlt:e.on<listed.size:=by
     have:=hO.dep j hj e.on (Qa6.2 ⟨e,he,hb,rfl⟩)
     have:=hO.sz
     omega
    unfold C3 at hx;simpa [Array.getD,hlt] using hx
  ·have : ∃ i ∈ D1 (opO ops j), ¬ C3 listed i := by
    apply Qeb;intro hno;exact hd λi hi=>Qeb λk=>hno ⟨i,hi,k⟩
   obtain⟨i,hi,hx⟩:=this
   have:=hO.dep j hj i hi
   exact ih i this (by omega) hx
theorem ef0(hO:Ord ops m)(hF:FW Fe)(hQ:∀c a w,¬ Q (.panic c) a w)(h:wpOpsIn Fe n P ops Q (List.range' 0 ops.size) a0 w):wpAnyIn Fe n P .any ops Q ops.size (Array.replicate ops.size false) a0 w:=by
 have hsz:=hO.sz;obtain⟨V,⟨aE,hpE,hwE⟩,hs⟩:=chain hO hQ h m (Qaf _);rw[show ops.size-m=1 by omega] at hwE
 have hwE:wpOpIn Fe n P ops Q m (wpOpsIn Fe n P ops Q []) aE w:=by rw[<- wpOpsIn_cons];exact hwE
 have key:∀(fuel:Nat) (listed:Array Bool) (ac:Act),listed.size=ops.size->(∀j,j<ops.size->C3 listed j->∀i∈D1 (opO ops j),C3 listed i)->¬ C3 listed m->Pt ops m a0 V (C3 listed) ac->F7 listed<=fuel->wpAnyIn Fe n P .any ops Q fuel listed ac w:=by
  intro fuel
  induction fuel with
  |zero =>
   intro listed ac _ _ hm _ hc;exact (hm (Ua5 (by omega) m)).elim
  |succ fuel ih =>
   intro listed ac hls hcl hm hp hc;refine⟨λhr=>?_,λi hi=>?_⟩
   ·obtain⟨i,hi⟩:=ne3 hO hls m (Qaf _) hm;rw[hr] at hi;cases hi
   ·obtain⟨hi1,o,hio,hi2⟩:=mem_ready.1 hi;have hlt:i<ops.size:=(Qak.1 hio).1;obtain rfl:o=opO ops i:=Qag (hio.symm.trans (Za9 hlt));have hdi:∀k∈D1 (opO ops i),C3 listed k:=λk hk=>by
     obtain⟨e,he,hb,rfl⟩:=Qa6.1 hk;have h1:=hi2 e he hb;unfold C3;have hlt':e.on<listed.size:=by
      have:=hO.dep i (by omega) e.on hk
      omega
     simpa [Array.getD,hlt'] using h1
    have hnx:¬ C3 listed i:=λhx=>by unfold C3 at hx;rw[hi1] at hx;cases hx
    have hil:i<listed.size:=by omega
    have hcount:F7 (listed.setIfInBounds i true)<=fuel:=by
     have h0:listed.toList[i]?=some false:=by
      simp only[Array.getD,hil,dif_pos] at hi1;simp[hil];simpa using hi1
     have:=Ka7 listed.toList i h0
     unfold F7 at hc ⊢;rw[Array.toList_setIfInBounds];omega
    by_cases him:i=m
    ·subst him;have hall:∀d k,i-d<=k->k<i->C3 listed k:=λd=>by
      induction d with
      |zero=>intro k h1 h2;omega
      |succ d ihd =>
       intro k h1 h2;obtain⟨j,j1,j2,j3⟩:=hO.cov k h2;by_cases e:j=i
       ·subst e;exact hdi k j3
       ·exact hcl j (by omega) (ihd j (by omega) (by omega)) k j3
     have hac:ac=aE:=hp.same hpE λk hk=>⟨λ_=>hk,λ_=>hall i k (by omega) hk⟩
     rw[hac];refine wpOpIn_mono (λa' w' hq=>?_) hwE
     have hq:Q .normal a' w':=hq;have hr:Region.ready .any ops (listed.setIfInBounds i true)=[]:=by
      apply Qec.2;intro k hk;obtain⟨k1,ok,k2,_⟩:=mem_ready.1 hk;have hk':k<ops.size:=(Qak.1 k2).1
      have:C3 (listed.setIfInBounds i true) k:=(N8 hil).2 (by
       by_cases e:k=i
       ·exact .inr e
       ·exact .inl (hall i k (by omega) (by omega)))
      unfold C3 at this;rw[k1] at this;cases this
     cases fuel with
     |zero=>exact⟨hr,hq⟩
     |succ fuel=>exact⟨λ_=>hq,λk hk=>by rw[hr] at hk;cases hk⟩
    ·have hlm:i<m:=by omega
     have hpur:=hO.pur i hlm;obtain⟨acj,p1,p2⟩:=hs i hlm;have hev:execOp ac.eval (opO ops i)=execOp acj.eval (opO ops i):=execOp_congr _ (Yb7 hpur).1 λx hx=>hp.eval p1 λt e k hk hd=>by
      have hk':=hO.use i hlm x hx t e k hk hd
      have:=hO.dep i (by omega) k hk'
      exact⟨λ_=>this,λ_=>hdi k hk'⟩
     unfold wpOpIn;rw[hio];simp only[Region.wanted,pc6 hpur,if_true];refine⟨λf _=>hF.fn f,?_⟩
     rw[Oper.semAt_eq _ _ _ (Yb7 hpur).2,hev,p2];show wpAnyIn Fe n P .any ops Q fuel (listed.setIfInBounds i true) (ac.put (opO ops i).dst (V i)) w;refine ih _ _ (by rw[Array.size_setIfInBounds];exact hls) (λj hj hx k hk=>?_) (λhx=>?_) ((Pt.put hO hp hlm).iff λk _=>(N8 hil).symm) hcount
     ·rcases (N8 hil).1 hx with hx|rfl
      ·exact (N8 hil).2 (.inl (hcl j hj hx k hk))
      ·exact (N8 hil).2 (.inl (hdi k hk))
     ·rcases (N8 hil).1 hx with hx|e
      ·exact hm hx
      ·exact him e.symm
 have hnx:∀j,j<ops.size->¬ C3 (Array.replicate ops.size false) j:=λj hj hx=>by
  unfold C3 at hx;simp[Array.getD,hj] at hx
 refine key ops.size _ a0 (by simp) (λj hj hx=>absurd hx (hnx j hj)) (hnx m (by omega)) ⟨rfl,rfl,λi t hi hl=>absurd hl (hnx i (by omega)),λt _=>rfl⟩ ?_
 unfold F7;simp
end
theorem Nc6:∀H:List b7,p7 H (i6 H)=H/\Ub3 H (i6 H)=true
 |[]=>⟨rfl,rfl⟩
 |b::H=>by
  obtain⟨h1,h2⟩:=Nc6 H;have e:i6 (b::H)=Bool.rec (motive:=λ_=>b7) b { b with dead:=true } (A9 b)::i6 H:=rfl
  rw[e];have e1:∀c,p7 (b::H) (c::i6 H)=Bool.rec (motive:=λ_=>b7) c b (A9 b)::p7 H (i6 H):=λ_=>rfl
  have e2:∀c,Ub3 (b::H) (c::i6 H)=Bool.and (Bool.rec (motive:=λ_=>Bool) (Bool.rec true false (A9 c)) true (A9 b)) (Ub3 H (i6 H)):=λ_=>rfl
  rw[e1,e2,h1,h2];cases hb:A9 b with
  |true=>exact⟨rfl,rfl⟩
  |false=>exact⟨rfl,by simp[hb]⟩
section
variable{P:Program}{WB K:Nat->Prop}{J:List Value->World->Prop}{n:Nat}{S:HL}{rv:Value}{DF:List Deferred->Prop}{ρ0:Rho}{H0:List b7}{F0:Fz}{w0:World}{s:St}{ac:Act}{w:World}
theorem I3.drawn(h:I3 P WB K J n S rv DF ρ0 H0 F0 w0 s ac w)(hJ:Xb9 K J):I3 P WB K J n S rv DF ρ0 H0 F0 w0 s ac { w with drawn:=w.drawn+1 }:=by
 obtain⟨⟨ρ,F,W',up,hI⟩,h2,h3⟩:=h;obtain⟨e1,e2⟩:=Nc6 s.H;obtain⟨c1,c2⟩:=hI.core.step (w':={ w with drawn:=w.drawn+1 }) hJ (.same rfl rfl rfl rfl (Nat.le_succ _)) e2 (hI.core.hrel.same rfl)
 rw[e1] at c1 c2;exact⟨⟨_,F,W',up,c1,⟨hI.vals.1,λi x x' hx hx'=>c2 x x' (hI.vals.2 i x x' hx hx')⟩,hI.size⟩,h2,h3⟩
end
def pc7(Φ:Act->World->Prop)(F:Fence)(n:Nat)(P:Program)(md:Region.Mode)(ops:Array Oper)(Q:Exit->Act->World->Prop):Nat->Array Bool->Act->World->Prop
 |0,listed,a,w=>Φ a w/\Region.ready md ops listed=[]/\Q .normal a w
 |fuel+1,listed,a,w=>Φ a w/\(Region.ready md ops listed=[]->Q .normal a w) /\
  ∀i∈Region.ready md ops listed,wpOpIn F n P ops Q i (pc7 Φ F n P md ops Q fuel (listed.setIfInBounds i true)) a w
section
variable{DS:Nat->Prop}{tm:Array Value}{ds:List Deferred}{Fe:Fence}{nn:Nat}
variable{W:Nat->Prop}{ρ0:Rho}{H0:List b7}{F0:Fz}{w0 w:World}
variable{tr:Nat}{E:Env}{ops:Array Oper}{M:List Nat}{ks:List (Nat×PI)}{s:St}{U T:Nat->St}
variable(hD:DC tr E.P ops M ks)(hT:cd1 E ops ks s U T)(hin:∀j,j<ops.size->J1 tr E.P ops j=0->∀d,da9 ops j=some d->d<s.a.length)(hlen:H0.length<=s.H.length)
variable(hF:FW Fe)(hDS:∀j d,j<ops.size->da9 ops j=some d->DS d)
variable(hpairs:Ha1 E (T ops.size).a (Aa5 ops.size M ks)=true)(hG0:GOk E F0 w0)(hcalls:∀f,d9 E.P E.G f (E.call f))
include hD hT hin hlen hpairs hG0 hcalls hF hDS
theorem gc2{Φ:Act->World->Prop}(hΦ:∀ac w,ac.tmps.size=tm.size->(∀t,¬ DS t->ac.tmps[t]?=tm[t]?)->Ext W F0 w0 w->Φ ac w){Q:Exit->Act->World->Prop}(hQ:∀ac' w',wb9 DS tm ds W ρ0 H0 F0 w0 (T ops.size) ac' w'->Q .normal ac' w'):∀(fuel m:Nat) (listed:Array Bool) (ac:Act) (w:World),Ub5 DS tm ds W ρ0 H0 F0 w0 tr E ops s.a U T m listed ac w->F7 listed<=fuel->pc7 Φ Fe nn E.P .any ops Q fuel listed ac w
 |0,m,listed,ac,w,hR,hc=>by
  have hall:∀j,C3 listed j:=Ua5 (by omega)
  obtain⟨ρ,F,hA,_⟩:=hR.inv.rel;refine⟨hΦ ac w hR.inv.size hR.inv.same hA.ext,?_,hQ _ _ (gc0 hD hT hR λj _=>hall j)⟩
  rw[Qec];intro i hi;exact (Nb9 hi).2.1 (hall i)
 |fuel+1,m,listed,ac,w,hR,hc=>by
  obtain⟨ρ,F,hA,_⟩:=hR.inv.rel;refine⟨hΦ ac w hR.inv.size hR.inv.same hA.ext,λh=>hQ _ _ (gc0 hD hT hR (rd8 hD hR.size h)),λi hi=>?_⟩
  obtain⟨h1,h2,h3⟩:=Nb9 hi;have hdi:∀j∈D1 (Ca1 ops i),C3 listed j:=λj hj=>h3 hR.size j hj (by have:=fc6 hD.rows (na4 h1) hj;omega)
  have hcount:F7 (listed.setIfInBounds i true)<=fuel:=by
   have his:i<listed.size:=by rw[hR.size];exact h1
   have hf:listed.toList[i]?=some false:=by
    have:listed.getD i true=false:=by unfold C3 at h2;simpa using h2
    simp_all
   have:=Ka7 listed.toList i hf
   unfold F7 at hc ⊢
   grind
  rcases Ib8 (tr:=tr) (P:=E.P) (ops:=ops) i with hk|hk|hk
  ·exact Nc4 hD hT hin hlen hF hDS hG0 hcalls hR h1 hk h2 hdi λac' w' hR'=>gc2 hΦ hQ fuel m _ ac' w' hR' hcount
  ·exact Nc2 hD hT hin hpairs hF hDS hG0 hcalls hR h1 hk h2 hdi λac' w' hR'=>gc2 hΦ hQ fuel m _ ac' w' hR' hcount
  ·exact Nc3 hD hT hin hF hDS hG0 hcalls hR h1 hk h2 hdi λac' w' hR'=>gc2 hΦ hQ fuel (i+1) _ ac' w' hR' hcount
end
section
variable{DS:Nat->Prop}{tm:Array Value}{ds:List Deferred}{Fe:Fence}{nn:Nat}{E:Env}
theorem Ne6(hF:FW Fe)(hcalls:∀f,d9 E.P E.G f (E.call f)){W:Nat->Prop}{ρ0:Rho}{H0:List b7}{F0:Fz}{w0:World}{k:Nat}(hG0:GOk E F0 w0)
  {ops:Array Oper} {s:St} {x:d8} {s':St} (hDS:∀j d,j<ops.size->da9 ops j=some d->DS d) (hlen:H0.length<=s.H.length)
  (he:(E2 E k (Ja3 E.P ops) s).run=some (x,s')) {ac:Act} {w:World} {Q:Exit->Act->World->Prop} (hI:wb9 DS tm ds W ρ0 H0 F0 w0 s ac w)
  {Φ:Act->World->Prop} (hΦ:∀ac w,ac.tmps.size=tm.size->(∀t,¬ DS t->ac.tmps[t]?=tm[t]?)->Ext W F0 w0 w->Φ ac w)
  (hQ:∀ac' w',wb9 DS tm ds W ρ0 H0 F0 w0 s' ac' w'->Q .normal ac' w'):x=.normal/\pc7 Φ Fe nn E.P .any ops Q ops.size (Array.replicate ops.size false) ac { w with drawn:=w.drawn+1 }:=by
 have hdr:∃dsts asq l ps,Ja3 E.P ops=.draw dsts asq l ps:=by
  unfold Ja3 at he ⊢;have hT:∀tr,(∃a b c d,Ua3 tr E.P ops=.draw a b c d)\/Ua3 tr E.P ops=.bad:=λtr=>by
   unfold Ua3
   simp only
   cases Ed9 tr E.P ops (Region.before ops).toList 0 ops.toList with
   |none=>exact .inr rfl
   |some ks =>
    simp only[Zc9];split
    ·exact .inl ⟨_,_,_,_,rfl⟩
    ·exact .inr rfl
  revert he
  rcases hT 0 with⟨a,b,c,d,h0⟩|h0<;>rw[h0]<;>intro he
  ·exact⟨_,_,_,_,rfl⟩
  ·revert he
   rcases hT 1 with⟨a,b,c,d,h1⟩|h1<;>rw[h1]<;>intro he
   ·exact⟨_,_,_,_,rfl⟩
   ·revert he
    rcases hT 2 with⟨a,b,c,d,h2⟩|h2<;>rw[h2]<;>intro he
    ·exact⟨_,_,_,_,rfl⟩
    ·cases he
 obtain⟨dsts,asq,l,ps,hc⟩:=hdr;rw[hc] at he;obtain⟨tr,M,ks,hD,rfl,rfl,rfl,rfl⟩:=Id3 hc
 have he' : ((L1 E ((List.range ops.size).filterMap (zb3 ks)) s).bind fun s => (L1 E ((List.range ops.size).filterMap (jc3 ks)) s).bind fun s =>
   Bool.rec (motive:=λ_=>DT (d8×St)) .fail (Bool.rec (motive:=λ_=>DT (d8×St)) .fail (.ret (.normal,s)) (yb9 s.a ((List.range ops.size).filterMap (zb3 ks)))) (Ha1 E s.a (Aa5 ops.size M ks))).run=some (x,s'):=he
 obtain⟨s1,h1,h2⟩:=DT.run_bind_some he';obtain⟨s2,h3,h4⟩:=DT.run_bind_some h2;obtain⟨U,u0,u1,u2⟩:=Ua4 _ _ _ _ h1;obtain⟨T,t0,t1,t2⟩:=Ua4 _ _ _ _ h3;have hT:cd1 E ops ks s U T:=⟨u0,u2,t0.trans u1.symm,t2⟩;cases hp:Ha1 E s2.a (Aa5 ops.size M ks) with
 |false=>rw[hp] at h4;cases h4
 |true =>
 rw[hp] at h4
 simp only at h4
 cases hs:yb9 s2.a ((List.range ops.size).filterMap (zb3 ks)) with
 |false=>rw[hs] at h4;cases h4
 |true =>
 rw[hs] at h4;have h4':some (d8.normal,s2)=some (x,s'):=h4;injection h4' with h4';injection h4' with e1 e2;subst e1 e2
 rw[<- t1] at hp hs hQ;have hin:∀j,j<ops.size->J1 tr E.P ops j=0->∀d,da9 ops j=some d->d<s.a.length:=λj hj hk d hd=>by
  rw[<- (Xb1 hD hT ops.size (Qaf _)).2];refine pc3 hs (ic5 tr E.P ops M j) ?_ d hd;rw[Qci];exact⟨j,Qca.2 hj,(xd7 hD hj hk).1⟩
 refine⟨rfl,gc2 hD hT hin hlen hF hDS hp hG0 hcalls hΦ hQ ops.size 0 _ ac _ (Nc5 hD hT hlen hI) ?_⟩;unfold F7;simp
end
section
variable{P:Program}{WB K:Nat->Prop}{J:List Value->World->Prop}{ρ ρ0:Rho}{H0:List b7}{F F0:Fz}{w w0:World}{W':Nat->Prop}{up:List Value}{s:St}{ac:Act}{E:Env}
theorem sd9{Fe:Fence}{n m kk:Nat}(hF:FW Fe)(hG0:GOk E F0 w0)(hcalls:∀f,d9 E.P E.G f (E.call f))(hJ:Xb9 K J){ops:Array Oper}{dd:List Nat}(hdd:dd=ops.toList.filterMap (·.dst)){Q:Exit->Act->World->Prop}{x:d8}{s':St}
  (hI:I2 E.P WB K J n ρ0 H0 F0 w0 s ac w ρ F W' up) (he:(E2 E kk (.mask n dd (Ja3 E.P ops)) s).run=some (x,s'))
  {Φ:Act->World->Prop} (hΦ:∀ac' w',ac'.tmps.size=ac.tmps.size->(∀t,¬ t∈dd->ac'.tmps[t]?=ac.tmps[t]?)->Ext W' F w w'->Φ ac' w')
  (hQ:∀ac' w',dd6 E.P WB K J n ρ0 H0 F0 w0 s' ac' w'->ac'.defers=ac.defers->(∀t,¬ t∈dd->ac'.tmps[t]?=ac.tmps[t]?)->Q .normal ac' w'):x=.normal/\pc7 Φ Fe m E.P .any ops Q ops.size (Array.replicate ops.size false) ac { w with drawn:=w.drawn+1 }:=by
 subst hdd;have he':((E2 E kk (Ja3 E.P ops) ⟨m8 (da5 s.H) (E1 s.a n),i6 s.H⟩).bind λr=>.guard (Ub3 s.H r.2.H) (.ret (r.1,⟨ka3 (ops.toList.filterMap (·.dst)) s.a r.2.a 0,p7 s.H r.2.H⟩))).run=some (x,s'):=he
 obtain⟨⟨x1,s1⟩,h1,h2⟩:=DT.run_bind_some he';obtain⟨ho,h2⟩:=DT.run_guard_some h2;have h2:some (x1,(⟨ka3 (ops.toList.filterMap (·.dst)) s.a s1.a 0,p7 s.H s1.H⟩:St))=some (x,s'):=h2;injection h2 with h2;injection h2 with e1 e2;subst e1 e2
 have hG:GOk E F w:=hG0.adv hI.core.adv;refine Ne6 (DS:=(·∈ops.toList.filterMap (·.dst))) (tm:=ac.tmps) (ds:=ac.defers) (W:=W') (ρ0:=ρ) (H0:=i6 s.H) (F0:=F) (w0:=w) hF hcalls hG (λj d hj hd=>?_) (Qaf _) h1 ⟨rfl,rfl,λ_ _=>rfl,ρ,F,.refl,hI.core.hrel,hI.arel⟩ hΦ λac' w' hM=>?_
 ·refine Qci.2 ⟨Ca1 ops j,?_,hd⟩
  have:=na4 hj
  grind
 ·obtain⟨k1,k2,k3⟩:=Ec6 hJ hI ho hM;exact hQ ac' w' k1 k2 k3
end
theorem td0(B:Nat->Bool)(m:Nat):∀(l:List Oper) (k:Nat),(Nc1 B m k l).length=l.length
 |[],_=>rfl
 |_::r,k=>congrArg Nat.succ (td0 B m r (k+1))
theorem td1(B:Nat->Bool)(m:Nat):∀(l:List Oper) (k i:Nat),(Nc1 B m k l)[i]?=(l[i]?).map λo=>Yb5 (B (k+i)||Nat.ble m (k+i)) o
 |[],_,_=>by simp[Nc1]
 |o::r,k,0=>by simp[Nc1]
 |o::r,k,i+1=>by
  simp only[Nc1,List.getElem?_cons_succ];rw[td1 B m r (k+1) i,show k+1+i=k+(i+1) by omega]
theorem Fc5(B:Nat->Bool)(m:Nat)(ops:Array Oper):(xb0 B m ops).size=ops.size:=by
 show (Nc1 B m 0 ops.toList).length=_;rw[td0];simp
theorem Jb6(B:Nat->Bool)(m:Nat)(ops:Array Oper)(i:Nat):(xb0 B m ops)[i]?=(ops[i]?).map λo=>Yb5 (B i||Nat.ble m i) o:=by
 have:=td1 B m ops.toList 0 i
 rw[Qar] at this;simpa [xb0] using this
theorem ze0{o:Oper}(h:Ec9 o=true):(∀cs b,o.op≠.select cs b)/\∀c,o.op≠.defer c :=
 ⟨λcs b e=>(by simp[Ec9,e] at h),λc e=>(by simp[Ec9,e] at h)⟩
structure Hst(ops:Array Oper)(m:Nat)(B:Nat->Bool):Prop where
 lt:m<=ops.size
 dep:∀j,j<ops.size->∀i∈D1 (opO ops j),i<j
 tail:∀j,m<=j->j<ops.size->∀i,i<j->i∈D1 (opO ops j)
 pure:∀j,j<m->B j=true->kc0 (opO ops j)=true
 plain:∀j,j<m->B j=false->Ec9 (opO ops j)=true
 guard:∀j,j<m->B j=false->∀g b,(opO ops j).guard=some (g,b)->g<m/\B g=false/\∀t,(opO ops g).dst=some t->∀i,i<m->B i=true->(opO ops i).dst≠some t
 use:∀j,j<m->∀x∈(opO ops j).op.operands,∀t,x=.tmp t->∀i,i<m->B i=true->(opO ops i).dst=some t->i∈D1 (opO ops j)
section
variable{ops:Array Oper}{m:Nat}{B:Nat->Bool}{P:Program}{Fe:Fence}{n:Nat}{Q Q':Exit->Act->World->Prop}{Φ:Act->World->Prop}
theorem ze1{o:Oper}{a a':Act}{w:World}{K K':Act->World->Prop}(hp:Ec9 o=true)(he:∀x∈o.op.operands,a.eval x=a'.eval x)
  (hK:∀d v w2,K' ({ a' with defers:=d++a'.defers }.put o.dst v) w2->K ({ a with defers:=d++a.defers }.put o.dst v) w2) (hQ:∀c a w,¬ Q' (.panic c) a w) (hL:¬ LetsOut Q') (h:o.wpIn Fe n P a' w K' Q'):o.wpIn Fe n P a w K Q:=by
 obtain⟨hs,hd⟩:=ze0 hp;unfold Oper.wpIn at h ⊢;refine⟨λf hf=>h.1 f (by rw[<- about_congr o w he];exact hf),?_⟩
 have h2:=h.2;rw[Oper.semAt_eq _ _ _ hd] at h2 ⊢;rw[execOp_congr o hs he]
 revert h2
 generalize (execOp a'.eval o).run P w=r;intro h2;cases r with
 |ok q w' =>
  cases q with
  |value v=>exact hK [] _ _ h2
  |skip=>exact hK [] _ _ h2
  |defer d=>exact hK [d] _ _ h2
  | enter f args => exact ⟨h2.1, h2.2.mono fun e w'' he => by
    cases e with
    |returned v=>exact hK [] _ _ he
    |panicked ch=>exact absurd he (hQ _ _ _)
    |outgrown=>exact absurd he hL⟩
  |row row args=>exact⟨h2.1,h2.2.mono λv w'' he=>hK [] _ _ he⟩
  | round l f tmps asq body => exact ⟨h2.1, h2.2.mono fun e w'' he => by
    cases e with
    |returned v=>exact hK [] _ _ he
    |panicked ch=>exact absurd he (hQ _ _ _)
    |outgrown=>exact absurd he hL⟩
  |_=>exact h2.elim
 |halt x w' =>
  cases x with
  |panic v=>exact absurd h2 (hQ _ _ _)
  |_=>exact h2.elim
structure Rl(ops:Array Oper)(m:Nat)(B:Nat->Bool)(listed:Array Bool)(a a':Act):Prop where
 dz:a.defers=a'.defers
 sz:a.tmps.size=a'.tmps.size
 on:∀t,(∀i,i<m->B i=true->(opO ops i).dst=some t->C3 listed i)->a.tmps[t]?=a'.tmps[t]?
theorem Rl.eval{listed:Array Bool}{a a':Act}(h:Rl ops m B listed a a'){x:Operand}(hx:∀t,x=.tmp t->∀i,i<m->B i=true->(opO ops i).dst=some t->C3 listed i):a.eval x=a'.eval x:=by
 cases x with
 |tmp t =>
  show a.tmps.getD t undef=a'.tmps.getD t undef
  have:=h.on t (hx t rfl)
  simp_all
 |const v=>rfl
 |func f=>rfl
 |global g=>rfl
theorem zd5(a:Act)(dst:Option Tmp)(v:Value)(t:Nat):(a.put dst v).tmps[t]?=if dst=some t/\t<a.tmps.size then some v else a.tmps[t]?:=by
 cases dst with
 |none=>simp[Act.put]
 |some d =>
  by_cases e:d=t
  ·subst e;by_cases hd:d<a.tmps.size
   ·simp[Act.put,hd]
   ·simp[Act.put,hd]
  ·simp[Act.put,e,Qea e]
theorem Rl.same{listed:Array Bool}{a a':Act}(h:Rl ops m B listed a a')(hall:∀i,i<m->C3 listed i):a=a':=by
 have e:a.tmps=a'.tmps:=Qeg λt=>h.on t λi hi _ _=>hall i hi
 have d:=h.dz;cases a;cases a'
 simp only at e d
 rw[e,d]
theorem ee1{i:Nat}{o:Oper}{K:Act->World->Prop}{a:Act}{w:World}(ho:ops[i]?=some (Kd3 o))(h:wpOpIn Fe n P ops Q i K a w):K a w:=by
 unfold wpOpIn at h;rw[ho] at h;simp only[Region.wanted,Kd3,if_true] at h;have h2:=h.2;rw[Oper.semAt_eq _ _ _ (λc e=>by cases e)] at h2
 have e:(execOp a.eval { o with dst:=none,op:=Op.move (.const (.bool true)),guard:=none }).run P w=.ok (.value (.bool true)) w:=by simp[execOp,Act.eval]
 rw[e] at h2;exact h2
end
end Go.Ev
