/- Own work. -/
import Derived.Test.YtigadclidanicaaGreatEvHo3
set_option linter.all false
noncomputable section
def Qfa:=@List.mem_iff_getElem?
def Qfb:=@Array.getD_eq_getD_getElem?
def Qfc:=@List.mem_filter
def Qfd:=@Array.size_replicate
namespace Go.Ev
open Go
section
variable{WB K:Nat->Prop}{J:List Value->World->Prop}{ρ ρ0:Rho}{H H0 H':List c7}{F F0:Fz}{w w0 w':World}{W':Nat->Prop}{up:List Value}{E:Env}{a:List b7}{ac:Act}{x:b7}{o:Oper}
variable{ds:List Deferred}{n:Nat}(hC:C2 E.P WB K J ρ0 H0 F0 w0 H ds w ρ F W' up)(hv:VR ρ H F w a (ac.tmps.toList++up))(hn:ac.tmps.size=n)(hG:GOk E F w)
def Se4(E:Env)(W':Nat->Prop)(F:Fz)(w:World)(ac:Act)(o:Oper)(p:Nat)(v:Value):Prop :=
 ∀(a2:Act) (w2:World),a2.eval (.tmp p)=ac.eval (.tmp p)->Ext W' F w w2->(execOp a2.eval o).run E.P w2=.ok (.value v) w2
include hC hv hn hG
theorem zf2{t:TypeId}{p:Nat}(ho:o.op=.load t (.tmp p))(hp:Nat.blt p n=true)(hu:E.P.underlying t≠none)(he:(Hb4 E a H (.bload (szT E.P t) (agT E.P t) p)).run=some (x,H')) :
  H'=H/\∃v,XW ρ H F w x v/\Se4 E W' F w ac o p v:=by
 have hyr:=Lb6 hv hn hG (.tmp p) hp;simp only[Hb4] at he;cases hs:Sc1 0 H (c9 E a (.t p)) with
 |none=>rw[hs] at he;cases he
 |some q =>
 obtain⟨id,c,g,b⟩:=q;rw[hs] at he
 simp only at he
 obtain⟨h1,h2,h3,h4,h5⟩:=jc6 hs hyr;cases hle:Nat.ble (c+szT E.P t) (len (c8 b.elems 0)) with
 |false=>rw[hle] at he;cases he
 |true =>
 rw[hle] at he;obtain⟨z,hz1,hz2⟩:=pb1 he;obtain⟨e0,rfl⟩:x=z/\H=H':=by injection hz2 with e1 e2;exact⟨e1,e2.symm⟩
 rw[e0]
 clear e0 hz2
 obtain⟨_,hnW,_,hlt,hcont⟩:=hC.srel.has id b h2 (pb7 h4) h3
 rcases hcont with⟨_,row,vs,tt,m1,m2,m3,m4⟩|⟨t',K',El,fl,es,clk,m1,_⟩
 case inr=>exact (pc7 h4 m1).elim
 have hrow:c8 b.elems 0=row:=by rw[m1];rfl
 rw[hrow] at hle hz1;rw[z6] at hle;have hle:=Qae hle;have hti:∃i,E.P.info? t=some i/\i.size=szT E.P t:=by
  cases hd:E.P.underlying t with
  |none=>exact absurd hd hu
  |some d=>exact Cb4 hd
 obtain⟨ti,hi1,hi2⟩:=hti;generalize hsz:szT E.P t=k at *
 have hheap:∀w2,Ext W' F w w2->w2.heap[(ρ id).blk]?=some (.cells vs tt (0,0)):=λw2 hx=>(hx.block _ hlt hnW).trans m2
 have hcell:∀w2,Ext W' F w w2->∀j,j<k->w2.cell? ⟨(ρ id).blk,c+j,none⟩=some (vs.getD (c+j) undef):=λw2 hx j hj=>by
  have hlt:c+j<vs.size:=by omega
  simp[World.cell?,hheap w2 hx,hlt]
 have hrel:∀j,j<k->∀y,row[c+j]?=some y->XC ρ H F w y (vs.getD (c+j) undef):=λj hj y hy=>by
  have hlt:c+j<vs.size:=by omega
  exact (m4 (c+j) y _ hy (by simp[hlt])).2
 have hvals:∀w2,Ext W' F w w2->∀(j:Nat) v,((List.range k).map λj=>vs.getD (c+j) undef)[j]?=some v->w2.cell? (Addr.add ⟨(ρ id).blk,c,none⟩ j)=some v:=λw2 hx j v hj=>by
  obtain⟨hj1,hj2⟩:=eb5 hj;rw[aa2 rfl];rw[<- hj2];exact hcell w2 hx j hj1
 have hev:ac.eval (.tmp p)=.pointer (some ⟨(ρ id).blk,c,none⟩):=h5;refine⟨rfl,?_⟩;cases hag:agT E.P t with
 |true =>
  rw[hag] at hz1;have hz1:some (b7.agg (s5 (na6 H) (J6 (s9 row c) k)))=some z:=hz1;injection hz1 with hz1;subst hz1;refine⟨.agg ((List.range k).map λj=>vs.getD (c+j) undef).toArray,.w (.val (.agg _ _ ?_ λi y y' hy hy'=>?_)),λa2 w2 he2 hx=>?_⟩
  ·rw[s8,J7,I9];simp;omega
  ·rw[s8,J7,I9,Qbe] at hy;have hy':((List.range k).map λj=>vs.getD (c+j) undef)[i]?=some y':=by simpa using hy'
   obtain⟨hj1,hj2⟩:=eb5 hy';rw[Qap,if_pos hj1,Qbg] at hy;cases hq:row[c+i]? with
   |none=>rw[hq] at hy;cases hy
   |some q =>
    rw[hq] at hy;injection hy with hy;subst hy;rw[<- hj2];exact af7 (hrel i hj1 q hq)
  ·have hlc : (Go.loadCells ⟨(ρ id).blk, c, none⟩ k).run E.P w2 = .ok ((List.range k).map fun j => vs.getD (c + j) undef).toArray w2 := by
    have:=run_loadCells_list (P:=E.P) w2 ⟨(ρ id).blk,c,none⟩ ((List.range k).map λj=>vs.getD (c+j) undef) (hvals w2 hx)
    simpa using this
   simp[execOp,ho,he2.trans hev,Instr.loadAt,Instr.sureAddr,loadVar,xb5 hag,sizeOf,typeInfo,hi1,hi2,hlc]
 |false =>
  rw[hag] at hz1;have hz1:(match J6 (s9 row c) k with | [x]=>some x | _=>none:Option b7)=some z:=hz1
  rw[J7,I9] at hz1;have hk1:k=1/\row[c]?=some z:=by
   have hl:((row.drop c).take k).length=k:=by simp;omega
   split at hz1
   ·rename_i y hy;injection hz1 with hz1;subst hz1;rw[hy] at hl;have hk:k=1:=by simpa using hl.symm
    refine⟨hk,?_⟩;have h0:((row.drop c).take k)[0]?=some y:=by rw[hy];rfl
    rw[Qap,if_pos (by omega),Qbg] at h0
    simpa using h0
   ·cases hz1
  obtain⟨hk,hz⟩:=hk1;subst hk;refine⟨vs.getD c undef,.c ?_,λa2 w2 he2 hx=>?_⟩
  ·have:=hrel 0 (by omega) z (by rw[Nat.add_zero];exact hz)
   rwa [Nat.add_zero] at this
  ·have hc0:=hcell w2 hx 0 (by omega)
   rw[Nat.add_zero] at hc0;simp[execOp,ho,he2.trans hev,Instr.loadAt,Instr.sureAddr,loadVar,lb4 hag hu,hc0]
theorem Of3{s:TypeId}{p f:Nat}{fs:Array Field}{fd:Field}(ho:o.op=.fieldAddr s (.tmp p) f)(hp:Nat.blt p n=true)(hs':E.P.underlying s=some (.struct fs))(hf:fs[f]?=some fd)(hz:szT E.P fd.type≠0)
  (he:(Hb4 E a H (.bfld fd.offset p)).run=some (x,H')):H'=H/\∃v,XW ρ H F w x v/\Se4 E W' F w ac o p v:=by
 have hyr:=Lb6 hv hn hG (.tmp p) hp;simp only[Hb4] at he;cases hs:Sc1 0 H (c9 E a (.t p)) with
 |none=>rw[hs] at he;cases he
 |some q =>
 obtain⟨id,c,g,b⟩:=q;rw[hs] at he;have he':some (b7.ptr id 0 (c+fd.offset) g,H)=some (x,H'):=he;obtain⟨rfl,rfl⟩:x=b7.ptr id 0 (c+fd.offset) g/\H=H':=by injection he' with he';injection he' with e1 e2;exact⟨e1.symm,e2⟩
 obtain⟨h1,h2,h3,h4,h5⟩:=jc6 hs hyr;obtain⟨ti,hi,hi0,hi1⟩:=dd4 hz;have hev:ac.eval (.tmp p)=.pointer (some ⟨(ρ id).blk,c,none⟩):=h5;refine⟨rfl,.pointer (some (Addr.add ⟨(ρ id).blk,c,none⟩ fd.offset)),.c ?_,λa2 w2 he2 hx=>?_⟩
 ·rw[aa2 rfl];exact .box id (c+fd.offset) g b h2 h3 h4
 ·simp[execOp,ho,he2.trans hev,Instr.fieldAt,Instr.sureAddr,run_underlying hs',hf,fieldPlace,sizeOf,typeInfo,hi,hi1]
theorem zf3{pr:List Nat}{so:SP}(hb:nf0 pr o=true)(hs:cSp E.P n pr o=some so)(he:(Hb4 E a H so).run=some (x,H')) :
  ∃p,fe2 o=some p/\H'=H/\∃v,XW ρ H F w x v/\Se4 E W' F w ac o p v:=by
 unfold nf0 at hb;rw[Qas] at hb;obtain⟨_,hb⟩:=hb;unfold cSp at hs
 split at hb
 ·rename_i t y ho;rw[ho] at hs
  simp only at hs
  cases hp:fd6 pr y with
  |none=>rw[hp] at hb;cases hb
  |some p =>
  rw[hp] at hs
  simp only at hs
  injection hs with hs;subst hs
  obtain⟨h1,h2⟩:=wa6 he;rw[h2] at he;have hy:=yb2 hp;subst hy;rw[Qas] at h1;have hu:E.P.underlying t≠none:=λe=>by rw[e] at h1;cases h1.2
  exact⟨p,by unfold fe2;rw[ho],zf2 hC hv hn hG ho h1.1 hu he⟩
 ·rename_i s y f ho;rw[ho] at hs
  simp only at hs
  cases hp:fd6 pr y with
  |none=>rw[hp] at hb;cases hb
  |some p =>
  rw[hp] at hs
  simp only at hs
  have hy:=yb2 hp;subst hy
  split at hs
  ·rename_i fs hs'
   split at hs
   ·rename_i fd hf;injection hs with hs;subst hs
    obtain⟨h1,h2⟩:=wa6 he;rw[h2] at he;rw[Qas] at h1;exact⟨p,by unfold fe2;rw[ho],Of3 hC hv hn hG ho h1.1 hs' hf (pc9 h1.2) he⟩
   ·injection hs with hs;subst hs;cases he
  ·injection hs with hs;subst hs;cases he
 ·cases hb
end
theorem Se5{ops:Array Oper}{m:Nat}{B:Nat->Bool}(h:Kd4 B m ops=true):Hst ops m B:=by
 simp only[Kd4,Qas,Qcc,Qca,Qch] at h;obtain⟨⟨⟨h1,h2⟩,h3⟩,h4⟩:=h;refine⟨Qae h1,λj hj i hi=>h2 j hj i hi,λj hm hj i hi=>?_,λj hj hb=>?_,λj hj hb=>?_,λj hj hb g b hg=>?_,λj hj x hx t e i hi hbi hd=>?_⟩
 ·have:=h3 j hj
  simp only[Qci,Qch,Kd3,Qcc,Qca] at this
  grind
 ·grind
 ·grind
 ·have:=(h4 j hj).1
  rw[hb,hg] at this;simp only[Qas,Qch,Qcb,Qcc,Qca,Qci] at this
  grind
 ·have:=(h4 j hj).2 x (Array.mem_toList_iff.2 hx)
  subst e;simp only[xf4,Qcc,Qca,Qci,Qcb] at this
  grind
theorem nf4{ops:Array Oper}{m:Nat}{B:Nat->Bool}(h:Kd4 B m ops=true):∀i,i<m->B i=true->∃d,(opO ops i).dst=some d:=λi hi hb=>by
 simp only[Kd4,Qas,Qcc,Qca,Qch] at h
 have:=(h.2 i hi).1
 rw[hb] at this;simp only[Qas] at this;cases hd:(opO ops i).dst with
 |none=>rw[hd] at this;cases this.2
 |some d=>exact⟨d,rfl⟩
section
variable{WB K:Nat->Prop}{J:List Value->World->Prop}{ρ ρ0:Rho}{H0:List c7}{F F0:Fz}{w w0:World}{W':Nat->Prop}{up:List Value}{E:Env}{n:Nat}{pr:List Nat}
theorem sg3(hG0:GOk E F0 w0){kk:Nat}:∀(r:List Oper) (s:St) (ac:Act) (x:l4) (s':St),r.all (nf0 pr)=true->Nf8 n r=true->I2 E.P WB K J n ρ0 H0 F0 w0 s ac w ρ F W' up->(M2 E kk (nf1 E.P n pr r) s).run=some (x,s') ->
  x=.normal/\∃ac1,I2 E.P WB K J n ρ0 H0 F0 w0 s' ac1 w ρ F W' up/\ac1.defers=ac.defers/\(∀t,t∉U5 r->ac1.tmps[t]?=ac.tmps[t]?) /\
   ∀o∈r,∃p d,fe2 o=some p/\o.dst=some d/\∀(a2:Act) (w2:World),a2.tmps[p]?=ac1.tmps[p]?->a2.tmps[d]?=ac1.tmps[d]?->Ext W' F w w2->(execOp a2.eval o).run E.P w2=.ok (.value (a2.tmps.getD d undef)) w2
 |[],s,ac,x,s',_,_,hI,he=>by
  have he:some (l4.normal,s)=some (x,s'):=he
  grind
 |o::r,s,ac,x,s',hb,hc,hI,he=>by
  rw[List.all_cons,Qas] at hb;simp only[Nf8,Qas] at hc;obtain⟨hc1,hc2⟩:=hc;simp only[nf1] at he;cases hs:cSp E.P n pr o with
  |none=>rw[hs] at he;cases he
  |some so =>
  rw[hs] at he;obtain⟨⟨x1,s1⟩,h1,h2⟩:=DT.run_bind_some (show ((M2 E kk (.sp o.dst none so) s).bind λr2=>l4.rec (motive:=λ_=>DT (l4×St)) (M2 E kk (nf1 E.P n pr r) r2.2) (λid=>.ret (.exit id,r2.2)) (.ret (.ret,r2.2)) r2.1).run=some (x,s') from he)
  obtain⟨s2,k1,k2⟩:=DT.run_bind_some (show (((Hb4 E s.a s.H so).bind λr=>.ret ⟨putA s.a o.dst r.1,r.2⟩).bind λs=>.ret (l4.normal,s)).run=some (x1,s1) from h1)
  have k2:some (l4.normal,s2)=some (x1,s1):=k2;injection k2 with k2;injection k2 with e1 e2;subst e1 e2
  obtain⟨⟨xv,H'⟩,q1,q2⟩:=DT.run_bind_some k1;have q2:some (⟨putA s.a o.dst xv,H'⟩:St)=some s2:=q2;injection q2 with q2;subst q2;obtain⟨p,hp,rfl,v,hxv,hst⟩:=zf3 hI.core hI.vals hI.size (hG0.adv hI.core.adv) hb.1 hs q1;rw[hp] at hc1;cases hd:o.dst with
  |none=>rw[hd] at hc1;simp at hc1
  |some d =>
  rw[hd] at hc1;simp only[Qas,Qch,Qcb] at hc1;obtain⟨⟨hdn,hpn⟩,hdr⟩:=hc1;have hpn':p∉U5 (o::r):=λh=>by rw[Qeh.2 h] at hpn;cases hpn
  have hdr':d∉U5 r:=λh=>by rw[Qeh.2 h] at hdr;cases hdr
  have hds:U5 (o::r)=d::U5 r:=by unfold U5;rw[List.filterMap_cons,hd]
  rw[hds] at hpn';have hpd:p≠d:=λe=>hpn' (by rw[e];simp)
  have hpr:p∉U5 r:=λh=>hpn' (by simp[h])
  have hI1:I2 E.P WB K J n ρ0 H0 F0 w0 ⟨putA s.a o.dst xv,s.H⟩ (ac.put o.dst v) w ρ F W' up :=
   ⟨by rw[E2];exact hI.core,hI.vals.putA hI.size (by rw[hd];unfold dOk;rw[Qch];exact hdn) hxv,(ia7 _ _).trans hI.size⟩
  obtain⟨hx,ac1,j1,j2,j3,j4⟩:=sg3 hG0 r _ _ x s' hb.2 hc2 hI1 h2;refine⟨hx,ac1,j1,j2.trans (E2 _ _),λt ht=>?_,λo' ho'=>?_⟩
  ·rw[hds] at ht;rw[j3 t λh=>ht (by simp[h]),jc4]
   grind
  ·rcases Qbh.1 ho' with rfl|ho'
   ·refine⟨p,d,hp,hd,λa2 w2 e1 e2 hx=>?_⟩
    have ep:a2.eval (.tmp p)=ac.eval (.tmp p):=by
     show a2.tmps.getD p undef=ac.tmps.getD p undef
     have:a2.tmps[p]?=ac.tmps[p]?:=by
      rw[e1,j3 p hpr,jc4]
      grind
     simp only[Qfb,this]
    have ev:a2.tmps.getD d undef=v:=by
     have:a2.tmps[d]?=some v:=by
      rw[e2,j3 d hdr',hd,oe9,if_pos ⟨rfl,by rw[hI.size];exact hdn⟩]
     simp only[Qfb,this,Option.getD_some]
    rw[ev];exact hst a2 w2 ep hx
   ·exact j4 o' ho'
end
section
variable{WB K:Nat->Prop}{J:List Value->World->Prop}{ρ ρ0:Rho}{H H0:List c7}{F F0:Fz}{w w0:World}{W':Nat->Prop}{up:List Value}{P:Program}{n:Nat}
theorem Ld0{id:Nat}:∀{H:List c7},xe9 id H=true->∀(i:Nat) b,H[i]?=some b->I4 b=true->∀row∈b.elems,∀x∈row,Cc4 id x=true
 |[],_,i,b,hb=>by simp at hb
 |c::H,h,i,b,hb=>by
  have e:xe9 id (c::H)=Bool.rec (motive:=λ_=>Bool) (xe9 id H) (Bool.rec false (xe9 id H) (if9 (Za6 (Cc4 id)) c.elems)) (I4 c):=rfl
  rw[e] at h;have hR:∀{l:List (List b7)},if9 (Za6 (Cc4 id)) l=true->∀row∈l,∀x∈row,Cc4 id x=true:=by
   intro l
   induction l with
   |nil=>intro _ row hr;cases hr
   |cons r l ih =>
    intro hl row hr;have e2:if9 (Za6 (Cc4 id)) (r::l)=Bool.rec false (if9 (Za6 (Cc4 id)) l) (Za6 (Cc4 id) r):=rfl;rw[e2] at hl;cases hq:Za6 (Cc4 id) r with
    |false=>rw[hq] at hl;cases hl
    |true =>
     rw[hq] at hl
     rcases Qbh.1 hr with rfl|hr
     ·exact Cc7 hq
     ·exact ih hl row hr
  cases hc:I4 c with
  |false =>
   rw[hc] at h;cases i with
   |zero =>
    simp_all
   |succ i=>exact Ld0 h i b (by simpa using hb)
  |true =>
   rw[hc] at h;cases hq:if9 (Za6 (Cc4 id)) c.elems with
   |false=>rw[hq] at h;cases h
   |true =>
    rw[hq] at h;cases i with
    |zero =>
     grind
    |succ i=>exact Ld0 h i b (by simpa using hb)
section
variable{id:Nat}{b e:c7}(hb:H[id]?=some b)(hs:I4 b=false)(he:I4 e=true)
include hb hs he
theorem Se6{id1:Nat}{b1:c7}(h:(A2 (H.set id e))[id1]?=some b1)(hd:b1.dead=false):id1≠id/\(A2 H)[id1]?=some b1:=by
 obtain⟨h1,h2⟩:=la6 h hd;have hid:=(Qab.1 hb).1;by_cases x:id=id1
 ·simp_all
 ·rw[Qah x] at h1;exact⟨λy=>x y.symm,ga5 h1 h2⟩
theorem Ld1{id1:Nat}{b1:c7}(hn:id1≠id)(h:(A2 H)[id1]?=some b1)(hd:b1.dead=false):(A2 (H.set id e))[id1]?=some b1:=by
 obtain⟨h1,h2⟩:=la6 h hd;exact ga5 (by rw[Qah λy=>hn y.symm];exact h1) h2
theorem Ld2{x:b7}{x':Value}(h:ea9 ρ (A2 H) F w x x'):ea9 ρ (A2 (H.set id e)) F w (ic7 id x) x':=by
 cases h with
 |mem h =>
  cases h with
  |v _ h1=>exact .mem (.v _ h1)
  |fn f caps vs _ e1 hl hb1 h=>exact .mem (.fn f caps vs _ e1 hl hb1 h)
  |tree es n get a cap cs h1 h2 h3 h4 h5 h6=>exact .mem (.tree es n get a cap cs h1 h2 h3 h4 h5 h6)
  |nil es get=>exact .mem (.nil es get)
 |v _=>exact .v _
 |ptr id1 i c g a b1 hb1 hd hg h =>
  have e1:ic7 id (.ptr id1 i c g)=Bool.rec (motive:=λ_=>b7) (.ptr id1 i c g) .unk (Nat.beq id1 id):=rfl
  rw[e1];cases hq:Nat.beq id1 id with
  |true=>exact .unk _
  |false=>exact .ptr id1 i c g a b1 (Ld1 hb hs he (Qbl hq) hb1 hd) hd hg h
 |sl id1 off n g a cap b1 hb1 hd hg hn hs1 hm h =>
  have e1:ic7 id (.sl id1 off n g)=Bool.rec (motive:=λ_=>b7) (.sl id1 off n g) .unk (Nat.beq id1 id):=rfl
  rw[e1];cases hq:Nat.beq id1 id with
  |true=>exact .unk _
  |false=>exact .sl id1 off n g a cap b1 (Ld1 hb hs he (Qbl hq) hb1 hd) hd hg hn hs1 hm h
 |tptr cs a vs h1 h2 h3 h4=>exact .tptr cs a vs h1 h2 h3 h4
 |unk x'=>exact .unk _
theorem pd6{x:b7}(h:Cc4 id x=true):ic7 id x=x:=by
 cases x with
 |ptr id1 i c g =>
  have e1:ic7 id (.ptr id1 i c g)=Bool.rec (motive:=λ_=>b7) (.ptr id1 i c g) .unk (Nat.beq id1 id):=rfl
  rw[e1];have h:(!Nat.beq id1 id)=true:=h
  simp_all
 |sl id1 i c g =>
  have e1:ic7 id (.sl id1 i c g)=Bool.rec (motive:=λ_=>b7) (.sl id1 i c g) .unk (Nat.beq id1 id):=rfl
  rw[e1];have h:(!Nat.beq id1 id)=true:=h
  simp_all
 |_=>rfl
theorem Xf9{id1:Nat}{b1:c7}(h:H[id1]?=some b1)(h1:I4 b1=true):id≠id1:=λx=>by
 simp_all
theorem De7{x:b7}{x':Value}(h:XC ρ H F w x x'):XC ρ (H.set id e) F w (ic7 id x) x':=by
 cases h with
 |n h=>exact .n (Ld2 hb hs he h)
 |box id1 c g b1 hb1 hd he1 =>
  have hne:=Xf9 hb hs he hb1 (pb7 he1);have e1:ic7 id (.ptr id1 0 c g)=.ptr id1 0 c g:=pd6 hb hs he (by
   show (!Nat.beq id1 id)=true;cases hq:Nat.beq id1 id with
   |true=>exact absurd (Qad hq).symm hne
   |false=>rfl)
  rw[e1];exact .box id1 c g b1 (by rw[Qah hne];exact hb1) hd he1
 |map id1 c g b1 t hb1 hd he1 =>
  have hne:=Xf9 hb hs he hb1 (yb1 he1);have e1:ic7 id (.ptr id1 0 c g)=.ptr id1 0 c g:=pd6 hb hs he (by
   show (!Nat.beq id1 id)=true;cases hq:Nat.beq id1 id with
   |true=>exact absurd (Qad hq).symm hne
   |false=>rfl)
  rw[e1];exact .map id1 c g b1 t (by rw[Qah hne];exact hb1) hd he1
theorem zf5{x:b7}{x':Value}(h:XW ρ H F w x x'):XW ρ (H.set id e) F w (Gd3 id x) x':=by
 have hcells:∀{cs:List b7} {vs:Array Value},(∀(i:Nat) x x',cs[i]?=some x->vs[i]?=some x'->ea9 ρ (A2 H) F w x x')->∀(i:Nat) x x',(s5 (ic7 id) cs)[i]?=some x->vs[i]?=some x'->ea9 ρ (A2 (H.set id e)) F w x x':=λ{cs vs} h i x x' hx hx'=>by
  rw[s8,Qbe] at hx;cases hy:cs[i]? with
  |none=>rw[hy] at hx;cases hx
  |some y =>
   rw[hy] at hx;injection hx with hx;subst hx;exact Ld2 hb hs he (h i y x' hy hx')
 have hfn:∀{f:FuncId} {cs:List b7} {v:Value},K8 ρ (A2 H) F w (.fn f cs) v->XW ρ (H.set id e) F w (Gd3 id (.fn f cs)) v:=λ{f cs v} h=>by
  obtain⟨vs,rfl,hl,h⟩:=dc3 h;exact .w (.val (.fn f _ vs (by rw[s8];simpa using hl) (hcells h)))
 have hbare:∀{x:b7} {x':Value},ea9 ρ (A2 H) F w x x'->XW ρ (H.set id e) F w (Gd3 id x) x':=λ{x x'} h=>by
  cases x with
  |fn f cs=>exact hfn (.val (.cell h))
  |agg=>cases h with
   |mem h=>cases h
  |tup=>exact .w (.unk _)
  |_=>exact .w (.val (.cell (Ld2 hb hs he h)))
 cases h with
 |w h =>
  cases h with
  |tup=>exact .w (.unk _)
  |val h =>
   cases h with
   |cell h=>exact hbare h
   |agg cs vs hl h=>exact .w (.val (.agg _ vs (by rw[s8];simpa using hl) (hcells h)))
   |fn f cs vs hl h=>exact hfn (.val (.fn f cs vs hl h))
 |c h =>
  cases x with
  |fn f cs=>cases h with
   |n h=>exact hbare h
  |agg=>cases h with
   |n h=>exact hbare h
  |tup=>exact .w (.unk _)
  |_=>exact .c (De7 hb hs he h)
end
theorem zf6{p:Nat}{s s':St}{x:l4}{ac:Act}(hI:Kd0 P WB K J n ρ0 H0 F0 w0 s ac w)(hrun:(le1 H0.length p s).run=some (x,s')):x=.normal/\Kd0 P WB K J n ρ0 H0 F0 w0 s' ac w:=by
 obtain⟨ρ,F,W',up,hI⟩:=hI;unfold le1 at hrun;cases hp:nth s.a p with
 |none=>rw[hp] at hrun;cases hrun
 |some v =>
 cases v with
 |ptr id i c g =>
  rw[hp] at hrun
  simp only at hrun
  cases hbk:blkAt s.H id g with
  |none=>rw[hbk] at hrun;cases hrun
  |some b =>
  rw[hbk] at hrun
  simp only at hrun
  obtain⟨hb,hdead,hg⟩:=H4 hbk
  split at hrun
  case h_2=>cases hrun
  rename_i row helems
  split at hrun
  case h_2=>cases hrun
  rename_i hck;have hrun:some (l4.normal,(⟨setAt (s5 (Gd3 id) s.a) p (.ptr id 0 0 (b.g+1)),setAt s.H id { b with et:=0,es:=0,g:=b.g+1 }⟩:St))=some (x,s'):=hrun
  injection hrun with hrun;injection hrun with e1 e2;subst e1 e2
  refine⟨rfl,?_⟩;simp only[Qas,Qcb] at hck;obtain⟨hk,hi,hc,hown,hsp,hbox,hno⟩:=hck;have hk:=Qae hk;have hi:=Qad hi;have hc:=Qad hc;subst hi hc;have hmk:(A2 s.H)[id]?=some b:=ga5 hb hsp;obtain⟨cc,t,fr,hB⟩:=hI.core.hrel.blk id b hmk hdead;obtain⟨hfr,hW,hoff,hsz,hnF,_⟩:=hB.own hown;subst hfr;have hlt:=hB.lt;have hid:=(Qab.1 hb).1;rw[H6,H6,s8];generalize hee:({ b with et:=0,es:=0,g:=b.g+1 }:c7)=e
  have hes:I4 e=true:=by subst hee;rfl
  have hed:e.dead=false:=by subst hee;exact hdead
  have hebox:ee7 e:=by subst hee;exact⟨rfl,rfl⟩
  have heel:e.elems=[row]:=by subst hee;exact helems
  have hrl:row.length=b.es:=hB.rows 0 row (by rw[helems];rfl)
  have hlive:=λ{id1:Nat} {b1:c7}=>Se6 (id1:=id1) (b1:=b1) hb hsp hes
  have hother:∀id1,id1≠id->(s.H.set id e)[id1]?=s.H[id1]?:=λid1 hn=>Qah λy=>hn y.symm
  have hself:(s.H.set id e)[id]?=some e:=by simp[hid]
  refine⟨ρ,F,λk=>W' k/\k≠(ρ id).blk,up,⟨⟨λk hk=>hI.core.sub k hk.1,?_,?_,?_,λk hk=>⟨λh=>(hI.core.kept k hk).1 h.1,(hI.core.kept k hk).2⟩,λid1 b1 h1 hs1 hd1 hK=>?_,hI.core.jot,?_⟩,⟨?_,λj y y' hy hy'=>?_⟩,hI.size⟩⟩
  ·have hA:=hI.core.adv;refine⟨hA.ext,λid0 b0 h0=>?_,hA.more,hA.new,λid1 b' h1 hn=>?_⟩
   ·have h0l:=(Qab.1 h0).1;obtain⟨b',k1,k2⟩:=hA.heap id0 b0 h0
    grind
   ·have h1:(s.H.set id e)[id1]?=some b':=h1;by_cases y:id1=id
    ·subst y;exact hI.core.sub _ hW
    ·rw[hother id1 y] at h1;exact hA.fresh id1 b' h1 hn
  ·have hR:=hI.core.hrel;refine⟨λid1 b1 h1 hd1=>?_,λid1 id2 b1 b2 h1 h2 hd1 hd2 ho hne=>?_,hR.frz,λk hk=>⟨hR.new k hk,λy=>by subst y;exact absurd hlt (Nat.not_lt.2 hk)⟩⟩
   ·obtain⟨k1,k2⟩:=hlive h1 hd1;obtain⟨cc1,t1,fr1,hB1⟩:=hR.blk id1 b1 k2 hd1;exact⟨cc1,t1,fr1,hB1.obj,hB1.room,hB1.len,hB1.rows,hB1.cell,λho=>by
     obtain⟨g1,g2,g3⟩:=hB1.own ho;exact⟨g1,⟨g2,hR.apart id1 id b1 b k2 hmk hd1 hdead ho k1⟩,g3⟩,hB1.kept⟩
   ·exact hR.apart id1 id2 b1 b2 (hlive h1 hd1).2 (hlive h2 hd2).2 hd1 hd2 ho hne
  ·have hS:=hI.core.srel;refine⟨λid1 b1 h1 hs1 hd1=>?_,λid1 id2 b1 b2 h1 h2 hs1 hs2 hd1 hd2 hne=>?_⟩
   ·by_cases y:id1=id
    ·subst y
     have:b1=e:=Qag (h1.symm.trans hself)
     subst this;refine⟨hI.core.sub _ hW,λh=>h.2 rfl,hnF,hlt,.inl ⟨hebox,row,cc,t,heel,hB.obj,?_,λc x x' hx hx'=>?_⟩⟩
     ·have:=hB.len
      simp_all
     ·obtain⟨x2,m1,m2⟩:=hB.cell 0 row c x (by rw[helems];rfl) hx
      rw[hoff] at m1;have m1:cc[c]?=some x2:=by simpa using m1
      obtain rfl:x'=x2:=Qag (hx'.symm.trans m1);exact⟨m2.one,.n (.mem m2)⟩
    ·have h1':s.H[id1]?=some b1:=by rw[<- hother id1 y];exact h1
     obtain⟨k1,k2,k3,k4,k5⟩:=hS.has id1 b1 h1' hs1 hd1;refine⟨k1,λh=>k2 h.1,k3,k4,?_⟩
     rcases k5 with⟨q1,row1,vs,tt,m1,m2,m3,m4⟩|k5
     ·refine .inl ⟨q1,row1,vs,tt,m1,m2,m3,λc x x' hx hx'=>⟨(m4 c x x' hx hx').1,?_⟩⟩
      have hn:=Ld0 hno id1 b1 h1' hs1 row1 (by rw[m1];simp) x (Qbc hx)
      have:=De7 hb hsp hes (m4 c x x' hx hx').2
      rwa [pd6 hb hsp hes hn] at this
     ·exact .inr k5
   ·by_cases y:id1=id
    ·subst y;have h2':s.H[id2]?=some b2:=by rw[<- hother id2 (λy=>hne y.symm)];exact h2
     intro hq;exact (hS.has id2 b2 h2' hs2 hd2).2.1 (hq ▸ hW)
    ·have h1':s.H[id1]?=some b1:=by rw[<- hother id1 y];exact h1
     by_cases z:id2=id
     ·subst z;intro hq;exact (hS.has id1 b1 h1' hs1 hd1).2.1 (hq ▸ hW)
     ·exact hS.apart id1 id2 b1 b2 h1' (by rw[<- hother id2 z];exact h2) hs1 hs2 hd1 hd2 hne
  ·by_cases y:id1=id
   ·subst y;exact (hI.core.kept _ hK).1 hW
   ·exact hI.core.far id1 b1 (by rw[<- hother id1 y];exact h1) hs1 hd1 hK
  ·obtain⟨m1,m2⟩:=hI.core.marks;exact⟨λd hd=>by
    obtain⟨D,q1,q2,q3,q4,q5⟩:=m1 d hd;exact⟨D,q1,q2,λh=>q3 h.1,q4,q5⟩,m2⟩
  ·show ((s.a.map (Gd3 id)).set p _).length=_;simpa using hI.vals.1
  ·have hy:((s.a.map (Gd3 id)).set p (.ptr id 0 0 (b.g+1)))[j]?=some y:=hy;rw[F7] at hp;by_cases q:p=j
   ·subst q;have hpl:=(Qab.1 hp).1
    have:y=.ptr id 0 0 (b.g+1):=by simpa [hpl] using hy.symm
    subst this;have hx:=hI.vals.2 p _ y' hp hy';have hval:y'=.pointer (some ⟨(ρ id).blk,0,none⟩):=by
     have hcr:∀{v},ea9 ρ (A2 s.H) F w (.ptr id 0 0 g) v->v=.pointer (some ⟨(ρ id).blk,0,none⟩):=λ{v} h=>by
      obtain⟨ad,b2,e3,m1,m2,m3,m4⟩:=Za9 (.val (.cell h))
      have:b2=b:=Qag (m1.symm.trans hmk)
      subst this;rw[e3,m4 hg,hoff];simp
     cases hx with
     |w h=>cases h with
      |val h=>cases h with
       |cell h=>exact hcr h
     |c h=>cases h with
      |n h=>exact hcr h
      |box _ _ _ b2 hb2 _ he2 =>
       have:b2=b:=Qag (hb2.symm.trans hb)
       subst this;exact absurd ((pb7 he2).symm.trans hsp) (by decide)
      |map _ _ _ b2 _ hb2 _ he2 =>
       have:b2=b:=Qag (hb2.symm.trans hb)
       subst this;exact absurd ((yb1 he2).symm.trans hsp) (by decide)
    rw[hval];exact .c (.box id 0 (b.g+1) e hself hed hebox)
   ·rw[Qah q,Qbe] at hy;cases hz:s.a[j]? with
    |none=>rw[hz] at hy;cases hy
    |some z =>
     rw[hz] at hy;injection hy with hy;subst hy;exact zf5 hb hsp hes (hI.vals.2 j z y' hz hy')
 |_=>rw[hp] at hrun;cases hrun
theorem fe8{E:Env}{ac:Act}:∀(l:List Nat) (s:St) (x:l4) (s':St),Kd0 P WB K J n ρ0 H0 F0 w0 s ac w->(M2 E H0.length (Kd6 l) s).run=some (x,s')->x=.normal/\Kd0 P WB K J n ρ0 H0 F0 w0 s' ac w
 |[],s,x,s',hI,he=>by
  have he:some (l4.normal,s)=some (x,s'):=he
  simp_all
 |p::r,s,x,s',hI,he=>by
  obtain⟨⟨x1,s1⟩,h1,h2⟩:=DT.run_bind_some (show ((le1 H0.length p s).bind λr2=>l4.rec (motive:=λ_=>DT (l4×St)) (M2 E H0.length (Kd6 r) r2.2) (λid=>.ret (.exit id,r2.2)) (.ret (.ret,r2.2)) r2.1).run=some (x,s') from he)
  obtain⟨rfl,hI1⟩:=zf6 hI h1;exact fe8 r s1 x s' hI1 h2
end
section
variable{WB K:Nat->Prop}{J:List Value->World->Prop}{DF:List Deferred->Prop}{S S0:HL}{rv:Value}{ρ ρ0:Rho}{H H0 H':List c7}{F F0:Fz}{w w0 w':World}{W':Nat->Prop}{up:List Value}{E:Env}{n m:Nat}{Fe:Fence}{pr:List Nat}{yl:Option Rd}{kp:Nat->List Nat}{rf:Operand->Array Tmp->Code->Code->PC}
def YOk(E:Env)(Fe:Fence)(m n k:Nat)(rd:Rd)(I:HL->St->Act->World->Prop):Prop :=
 ∀(ops:Array Oper) (i:Nat) (o:Oper) (S:HL) (args:List Operand) (g:Option (Nat×Bool)) (s s':St) (xx:l4) (ac:Act) (w:World) (rest:List Nat) (Q:Exit->Act->World->Prop),
  ops[i]?=some o->fd7 ops S o=some args->la5 ops o=some g->gOk n g=true->dOk n o.dst=true->args.all (ltO n)=true->args.length=rd.ps.length->I S s ac w ->
  (M2 E k (.round o.dst g (args.map o7) n rd.nOut rd.ps rd.asq rd.body) s).run=some (xx,s')->(xx=.normal->∀ac' w',I (rmD S o.dst) s' ac' w'->wpOpsIn Fe m E.P ops Q rest ac' w')->wpOpsIn Fe m E.P ops Q (i::rest) ac w
def sg4(E:Env)(Fe:Fence)(m k:Nat)(rf:Operand->Array Tmp->Code->Code->PC)(I:St->Act->World->Prop):Prop :=
 ∀(g:Operand) (ps:Array Tmp) (asq body:Code) (s s':St) (x:l4) (ac:Act) (w:World) (Q:Exit->Act->World->Prop),(M2 E k (rf g ps asq body) s).run=some (x,s')->I s ac w ->
  (∀ac' w',I s' ac' w'->Q (toX x) ac' w')->(Code.rangeFunc g ps asq body).wpIn Fe m E.P Q ac w
theorem I3.less{P:Program}{s:St}{ac:Act}(h:I3 P WB K J n S rv DF ρ0 H0 F0 w0 s ac w)(hs:xf9 S0 S=true):I3 P WB K J n S0 rv DF ρ0 H0 F0 w0 s ac w:=by
 refine⟨h.inv,λp hp hg=>?_,h.df⟩
 unfold xf9 at hs;rw[Qcc] at hs;exact pd2 h.held (hs p hp) hg
theorem De8{k:Nat}{l:List PI}{dd:List Nat}{s s':St}{x:l4}(he:(M2 E k (.mask n dd (.ops l)) s).run=some (x,s')):x=.normal:=by
 have he':((M2 E k (.ops l) ⟨s5 (na6 s.H) (J6 s.a n),A2 s.H⟩).bind λr=>.guard (Ac3 s.H r.2.H) (.ret (r.1,⟨ta4 dd s.a r.2.a 0,F8 s.H r.2.H⟩))).run=some (x,s'):=he
 obtain⟨⟨x1,s1⟩,h1,h2⟩:=DT.run_bind_some he';obtain⟨_,h2⟩:=DT.run_guard_some h2;have h2:some (x1,(⟨ta4 dd s.a s1.a 0,F8 s.H s1.H⟩:St))=some (x,s'):=h2;injection h2 with h2;injection h2 with e1 _;subst e1
 obtain⟨s2,_,h4⟩:=DT.run_bind_some (show ((U4 E l ⟨s5 (na6 s.H) (J6 s.a n),A2 s.H⟩).bind λs=>.ret (l4.normal,s)).run=some (x1,s1) from h1)
 simp_all
theorem Zb4{k:Nat}{a b:PC}{s s':St}{x:l4}(he:(M2 E k (.seq a b) s).run=some (x,s')):∃x1 s1,(M2 E k a s).run=some (x1,s1)/\(x1=.normal->(M2 E k b s1).run=some (x,s'))/\(x1≠.normal->x1=x/\s1=s'):=by
 obtain⟨⟨x1,s1⟩,h1,h2⟩:=DT.run_bind_some (show ((M2 E k a s).bind λr=>l4.rec (motive:=λ_=>DT (l4×St)) (M2 E k b r.2) (λid=>.ret (.exit id,r.2)) (.ret (.ret,r.2)) r.1).run=some (x,s') from he)
 refine⟨x1,s1,h1,λe=>by subst e;exact h2,λe=>?_⟩
 cases x1 with
 |normal=>exact absurd rfl e
 |exit id =>
  simp_all
 |ret =>
  simp_all
section
variable(hF:FW Fe)(hG0:GOk E F0 w0)(hcalls:∀f,l8 E.P E.G f (E.call f))(hJ:Ec6 K J)(hyl:∀rd,yl=some rd->YOk E Fe m n H0.length rd λS=>I3 E.P WB K J n S rv DF ρ0 H0 F0 w0)
include hF hG0 hcalls hJ hyl
theorem yb4{ops:Array Oper}{Q:Exit->Act->World->Prop}:∀(f:Nat) (r:List Oper) (S:HL) (k:Nat) (s:St) (x:l4) (s':St) (ac:Act) (w:World),ops.toList.drop k=r->I3 E.P WB K J n S rv DF ρ0 H0 F0 w0 s ac w ->
  (M2 E H0.length (Ad7 E.P n pr yl S0 ops f r S) s).run=some (x,s')->(∀ac' w',I3 E.P WB K J n S0 rv DF ρ0 H0 F0 w0 s' ac' w'->Q (toX x) ac' w')->wpOpsIn Fe m E.P ops Q (List.range' k r.length) ac w
 |0,r,S,k,s,x,s',ac,w,hr,hI,he,hQ=>by cases he
 |f+1,[],S,k,s,x,s',ac,w,hr,hI,he,hQ=>by
  simp only[Ad7] at he;cases hs:xf9 S0 S with
  |false=>rw[hs] at he;cases he
  |true =>
   rw[hs] at he;have he:some (l4.normal,s)=some (x,s'):=he;injection he with he;injection he with e1 e2;subst e1 e2
   exact hQ ac w (hI.less hs)
 |f+1,o::r,S,k,s,x,s',ac,w,hr,hI,he,hQ=>by
  have hi:ops[k]?=some o:=by
   have:(ops.toList.drop k)[0]?=some o:=by rw[hr];rfl
   simpa using this
  have hr1:ops.toList.drop (k+1)=r:=by rw[<- List.drop_drop,hr];rfl
  have hrange:List.range' k (o::r).length=k::List.range' (k+1) r.length:=by
   rw[show (o::r).length=r.length+1 from rfl,Qee]
  simp only[Ad7] at he;cases hy:fd7 ops S o with
  |some args =>
   rw[hy] at he
   simp only at he
   cases hyl':yl with
   |none=>rw[hyl'] at he;cases he
   |some rd =>
   cases hg:la5 ops o with
   |none=>rw[hyl',hg] at he;cases he
   |some g =>
   rw[hyl',hg] at he
   simp only at he
   split at he
   case h_2=>cases he
   rename_i hc;simp only[Qas] at hc;obtain⟨x1,s1,h1,h2,h3⟩:=Zb4 he;rw[hrange];refine hyl rd hyl' ops k o S args g s s1 x1 ac w _ Q hi hy hg hc.1.1.1 hc.1.1.2 hc.1.2 (Qad hc.2) hI h1 λhx ac' w' hI'=>?_
   have h4:=h2 hx;rw[<- hyl'] at h4;exact yb4 f r _ (k+1) s1 x s' ac' w' hr1 hI' h4 hQ
  |none =>
  rw[hy] at he
  simp only at he
  cases hcp:Kd5 ops S o with
  |some dg =>
   obtain⟨d,g⟩:=dg;rw[hcp] at he
   simp only at he
   split at he
   case h_2=>cases he
   rename_i hd;rw[Qch] at hd;obtain⟨x1,s1,h1,h2,h3⟩:=Zb4 he;rw[hrange];refine yf2 hF hG0 hcalls hJ hi hcp hd hI h1 λhx ac' w' hI'=>?_
   exact yb4 f r _ (k+1) s1 x s' ac' w' hr1 hI' (h2 hx) hQ
  |none =>
  rw[hcp] at he
  simp only at he
  cases hsp:cSp E.P n pr o with
  |some so =>
   rw[hsp] at he
   simp only at he
   cases hg:la5 ops o with
   |none=>rw[hg] at he;cases he
   |some g =>
   rw[hg] at he
   simp only at he
   split at he
   case h_2=>cases he
   rename_i hc;rw[Qas] at hc;obtain⟨x1,s1,h1,h2,h3⟩:=Zb4 he;obtain⟨s2,k1,k2⟩:=DT.run_bind_some (show ((Oe2 E s o.dst g so).bind λs=>.ret (l4.normal,s)).run=some (x1,s1) from h1)
   have k2:some (l4.normal,s2)=some (x1,s1):=k2;injection k2 with k2;injection k2 with e1 e2;subst e1 e2
   rw[hrange];refine gg7 hF hG0 hJ hi hsp hg hc.1 hc.2 hI k1 λac' w' hI'=>?_
   exact yb4 f r _ (k+1) s2 x s' ac' w' hr1 hI' (h2 rfl) hQ
  |none =>
  rw[hsp] at he
  simp only at he
  generalize hm:pd0 (De2 E.P n pr ops S) r=q at he;cases hl:Xc3 E.P ops (o::r.take q) with
  |none=>rw[hl] at he;cases he
  |some l =>
  rw[hl] at he
  simp only at he
  obtain⟨x1,s1,h1,h2,h3⟩:=Zb4 he;have hx1:=De8 h1;subst hx1;have hsplit:o::r=(o::r.take q)++r.drop q:=by rw[List.cons_append,List.take_append_drop]
  have hlen:(o::r).length=(o::r.take q).length+(r.drop q).length:=by rw[<- Qdc,<- hsplit]
  have hrange2:List.range' k (o::r).length=List.range' k (o::r.take q).length++List.range' (k+(o::r.take q).length) (r.drop q).length:=by
   grind
  rw[hrange2];obtain⟨hinv,hheld,hdf⟩:=hI;refine (Nf1 (x:=.normal) (s':=s1) hF hG0 hcalls hJ (r:=o::r.take q) (l:=l) (dd:=U5 (o::r.take q)) ⟨r.drop q,by rw[hr];exact hsplit⟩ (λo' ho' d hd=>?_) hl hinv h1 λac' w' hI' hd' hsm=>?_).2
  ·unfold U5
   grind
  ·refine yb4 f (r.drop q) _ (k+(o::r.take q).length) s1 x s' ac' w' ?_ ⟨hI',fd9 hheld hsm,by rw[hd'];exact hdf⟩ (h2 rfl) hQ
   ·rw[<- List.drop_drop,hr,hsplit,List.drop_left]
theorem wd6{c:Code}{y:PC}{keep:List Nat} (ih:∀(s:St) (x:l4) (s':St),(M2 E H0.length y s).run=some (x,s')->∀(ac:Act) (w:World) (Q:Exit->Act->World->Prop),I3 E.P WB K J n S0 rv DF ρ0 H0 F0 w0 s ac w ->
  (∀ac' w',I3 E.P WB K J n S0 rv DF ρ0 H0 F0 w0 s' ac' w'->Q (toX x) ac' w')->c.wpIn Fe m E.P Q ac w) :
  ∀(nn:Nat) (s:St) (x:l4) (s':St),(Ac2 (λs=>tidyM H0.length ⟨X6 keep s.a 0,s.H⟩) (M2 E H0.length y) nn s).run=some (x,s')->∀(ac:Act) (w:World) (Q:Exit->Act->World->Prop),I3 E.P WB K J n S0 rv DF ρ0 H0 F0 w0 s ac w ->
  (∀ac' w',I3 E.P WB K J n S0 rv DF ρ0 H0 F0 w0 s' ac' w'->Q (toX x) ac' w')->Code.roundsIn Fe m E.P c Q nn ac w
 |0,s,x,s',he,ac,w,Q,hI,hQ=>by cases he
 |nn+1,s,x,s',he,ac,w,Q,hI,hQ=>by
  have he':((tidyM H0.length ⟨X6 keep s.a 0,s.H⟩).bind λs=>(M2 E H0.length y s).bind λr =>
   l4.rec (motive:=λ_=>DT (l4×St)) (Ac2 (λs=>tidyM H0.length ⟨X6 keep s.a 0,s.H⟩) (M2 E H0.length y) nn r.2) (λid=>.ret (.exit id,r.2)) (.ret (.ret,r.2)) r.1).run=some (x,s'):=he
  obtain⟨s1,h1,h2⟩:=DT.run_bind_some he';obtain⟨⟨x2,s2⟩,h3,h4⟩:=DT.run_bind_some h2;have hI1:=hI.tidyM h1;rw[roundsIn_succ];refine ih s1 x2 s2 h3 ac w _ hI1 λac' w' hI2=>?_
  cases x2 with
  |normal=>exact wd6 ih nn s2 x s' h4 ac' w' Q hI2 hQ
  |exit id =>
   have h4':some (l4.exit id,s2)=some (x,s'):=h4;injection h4' with h4';injection h4' with e1 e2;subst e1 e2
   exact hQ _ _ hI2
  |ret =>
   have h4':some (l4.ret,s2)=some (x,s'):=h4;injection h4' with h4';injection h4' with e1 e2;subst e1 e2
   exact hQ _ _ hI2
theorem Se7(hm:E.P.follows .mixedOrders=true){id:Nat}{ops:Array Oper}{s:St}{x:l4}{s':St}{ac:Act}{w:World}{Q:Exit->Act->World->Prop}(ho:Nf6 ops=true)
  (he:(M2 E H0.length (Ad7 E.P n pr yl S0 ops (ops.size+1) ops.toList S0) s).run=some (x,s')) (hI:I3 E.P WB K J n S0 rv DF ρ0 H0 F0 w0 s ac w) (hQ:∀ac' w',I3 E.P WB K J n S0 rv DF ρ0 H0 F0 w0 s' ac' w'->Q (toX x) ac' w') :
  (Code.region id ops true).wpIn Fe m E.P Q ac w:=by
 have hseg:=yb4 (Q:=λe a w=>(∀c,e≠.panic c)/\Q e a w) hF hG0 hcalls hJ hyl (ops.size+1) ops.toList S0 0 s x s' ac { w with drawn:=w.drawn+1 } rfl (hI.drawn hJ) he λac' w' h=>⟨λc hc=>(by cases x<;>cases hc),hQ ac' w' h⟩
 have hany:=hg4 (Q:=λe a w=>(∀c,e≠.panic c)/\Q e a w) (hg3 ho) hF (λc a w h=>h.1 c rfl) (by simpa using hseg)
 exact wpIn_mono (wpIn_region_any hm hany) λe a w h=>h.2
theorem pe1(hm:E.P.follows .mixedOrders=true){id:Nat}{ops:Array Oper}{s:St}{x:l4}{s':St}{ac:Act}{w:World}{Q:Exit->Act->World->Prop}(ho:Re9 n pr ops=true)
  (he : (M2 E H0.length (.seq (nf1 E.P n pr (Uc6 pr ops (Q1 ops ops.size)))
      (.seq (.mask n (U5 (Xb5 (bAt pr ops (Q1 ops ops.size)) (Q1 ops ops.size) ops).toList) (bb6 E.P (Xb5 (bAt pr ops (Q1 ops ops.size)) (Q1 ops ops.size) ops)))
       (.seq (Kd6 (Xf5 pr (ops.toList.take (Q1 ops ops.size)))) (Ad7 E.P n pr yl S0 ops (ops.size+1) (ops.toList.drop (Q1 ops ops.size)) (rmL S0 (U5 ops.toList)))))) s).run=some (x,s'))
  (hI:I3 E.P WB K J n S0 rv DF ρ0 H0 F0 w0 s ac w) (hQ:∀ac' w',I3 E.P WB K J n S0 rv DF ρ0 H0 F0 w0 s' ac' w'->Q (toX x) ac' w') :
  (Code.region id ops true).wpIn Fe m E.P Q ac w:=by
 generalize htl:Q1 ops ops.size=tl at he ho;generalize hB:bAt pr ops tl=B at he;generalize hops:Xb5 B tl ops=ops' at he;unfold Re9 at ho;rw[htl,hB,hops] at ho;simp only[Qas] at ho;obtain⟨⟨hc,hchk⟩,hall⟩:=ho;have hH:=Se5 hc;obtain⟨x1,s1,h1,h2,_⟩:=Zb4 he;obtain⟨ρ,F,W',up,hI2⟩:=hI.inv;have hbx:(Uc6 pr ops tl).all (nf0 pr)=true:=by
  unfold Uc6
  simp_all
 obtain⟨rfl,ac1,i1,i2,i3,i4⟩:=sg3 hG0 _ s ac x1 s1 hbx hchk hI2 h1;obtain⟨x2,s2,h3,h4,h5⟩:=Zb4 (h2 rfl);have hsz':ops'.size=ops.size:=by rw[<- hops,pd5]
 have hget:∀i,i<tl->B i=true->opO ops i∈Uc6 pr ops tl:=λi hi hb=>by
  rw[<- hB] at hb;unfold bAt at hb;rw[Qas] at hb;have hlt:i<ops.size:=by have:=hH.lt;omega
  refine Qfc.2 ⟨?_,hb.2⟩;refine Qfa.2 ⟨i,?_⟩;rw[Qap,if_pos hi]
  have:=yb3 hlt
  simpa using this
 have hsame:∀t,t∉U5 ops.toList->t∉U5 ops'.toList/\t∉U5 (Uc6 pr ops tl):=λt ht=>by
  refine⟨λh=>ht ?_,λh=>ht ?_⟩
  ·unfold U5 at h ⊢;obtain⟨o,ho,hd⟩:=Qck.1 h;obtain⟨k,hk⟩:=Qfa.1 ho;have hk':ops'[k]?=some o:=by simpa using hk
   rw[<- hops,jc7] at hk';cases hq:ops[k]? with
   |none=>rw[hq] at hk';cases hk'
   |some q =>
    rw[hq] at hk';simp only[Option.map_some] at hk';injection hk' with hk';cases hbk:(B k||Nat.ble tl k) with
    |true =>
     rw[hbk] at hk';rw[<- hk'] at hd;cases hd
    |false =>
     rw[hbk] at hk';have hk':q=o:=hk';subst hk';exact Qck.2 ⟨q,Qfa.2 ⟨k,by simpa using hq⟩,hd⟩
  ·unfold U5 Uc6 at h;obtain⟨o,ho,hd⟩:=Qck.1 h;unfold U5;exact Qck.2 ⟨o,List.mem_of_mem_take (Qfc.1 ho).1,hd⟩
 have hx2:x2=.normal:=(fe5 (Fe:=Fe) (m:=m) (dd:=U5 ops'.toList) (Q:=λ_ _ _=>True) (Φ:=λ_ _=>True) hF hG0 hcalls hJ (by rfl) i1 h3 (λ_ _ _ _ _=>trivial) λ_ _ _ _ _=>trivial).1
 subst hx2;obtain⟨x3,s3,h6,h7,_⟩:=Zb4 (h4 rfl);have hF1:=fe5 (Fe:=Fe) (m:=m) (dd:=U5 ops'.toList) (Q:=λe a w=>e=.normal/\wpOpsIn Fe m E.P ops (λe a w=>Q e a w) (List.range' tl (ops.size-tl)) a w)
  (Φ:=λa w2=>(∀t,¬ t∈U5 ops'.toList->a.tmps[t]?=ac1.tmps[t]?)/\Ext W' F w w2) hF hG0 hcalls hJ (by rfl) i1 h3 (λa w2 _ k2 k3=>⟨k2,k3⟩) (λac' w' hI' hd' hsm=>⟨rfl,?_⟩)
 ·have hF1:=hF1.2;have hsim:=Se3 (Q:=Q) (Q':=λe a w=>e=.normal/\wpOpsIn Fe m E.P ops (λe a w=>Q e a w) (List.range' tl (ops.size-tl)) a w) (Φ:=λa w2=>(∀t,¬ t∈U5 ops'.toList->a.tmps[t]?=ac1.tmps[t]?)/\Ext W' F w w2) hH hF (λi hi hb a w2 hΦ d hd=>?_) (nf4 hc) (λc a w h=>by cases h.1) (λ⟨a,w,h⟩=>by cases h.1) (λa w h=>h.2) ops.size (Array.replicate ops.size false) ac ac1 { w with drawn:=w.drawn+1 } (by simp)
   (λj hj hx=>?_) (λj _ hj hx=>?_) ⟨i2.symm,by rw[i1.size,hI2.size],λt ht=>?_⟩ ?_ (by rw[hsz'] at hF1;rw[hops];exact hF1)
  ·exact wpIn_region_any hm hsim
  ·grind
  ·unfold J1 at hx
   simp_all
  ·unfold J1 at hx
   simp_all
  ·refine (i3 t λh=>?_).symm
   unfold U5 at h;obtain⟨o,ho,hd⟩:=Qck.1 h;unfold Uc6 at ho;obtain⟨ho1,ho2⟩:=Qfc.1 ho;obtain⟨k,hk⟩:=Qfa.1 ho1;rw[Qap] at hk
   split at hk
   case isFalse=>cases hk
   rename_i hkt;have hk':ops[k]?=some o:=by simpa using hk
   have hkl:=(Qak.1 hk').1;obtain rfl:o=opO ops k:=Qag (hk'.symm.trans (yb3 hkl));have hb:B k=true:=by
    rw[<- hB];unfold bAt;rw[Qas];exact⟨by rw[Qch];exact hkt,ho2⟩
   have:=ht k hkt hb hd
   unfold J1 at this;simp[Array.getD,hkl] at this
  ·unfold P4;simp
 ·obtain⟨rfl,hI'⟩:=fe8 _ s2 x3 s3 hI' h6
  have:=yb4 (Q:=Q) hF hG0 hcalls hJ hyl (ops.size+1) (ops.toList.drop tl) (rmL S0 (U5 ops.toList)) tl s3 x s' ac' w' rfl ⟨hI',?_,by rw[hd',i2];exact hI.df⟩ (h7 rfl) hQ
  ·simpa using this
  ·refine fd9 hI.held λt ht=>?_
   obtain⟨k1,k2⟩:=hsame t ht;rw[hsm t k1,i3 t k2]
theorem Zc0(hm:E.P.follows .mixedOrders=true)(hrf:sg4 E Fe m H0.length rf (I3 E.P WB K J n S0 rv DF ρ0 H0 F0 w0)):∀(c:Code) (cur:Nat) (s:St) (x:l4) (s':St),(M2 E H0.length (Qa0 E.P n pr yl S0 kp rf cur c) s).run=some (x,s')->∀(ac:Act) (w:World) (Q:Exit->Act->World->Prop),I3 E.P WB K J n S0 rv DF ρ0 H0 F0 w0 s ac w ->
  (∀ac' w',I3 E.P WB K J n S0 rv DF ρ0 H0 F0 w0 s' ac' w'->Q (toX x) ac' w')->c.wpIn Fe m E.P Q ac w:=by
 intro c
 induction c with
 |skip =>
  intro cur s x s' he ac w Q hI hQ;have he':some (l4.normal,s)=some (x,s'):=he;injection he' with he';injection he' with e1 e2;subst e1 e2
  exact wpIn_skip (hQ _ _ hI)
 |region id ops d =>
  intro cur s x s' he ac w Q hI hQ;cases d with
  |true =>
   simp only[Qa0] at he
   split at he
   ·rename_i ho;rw[Qas] at ho;exact Se7 hF hG0 hcalls hJ hyl hm ho.2 he hI hQ
   split at he
   ·rename_i ho;rw[Qas] at ho;exact pe1 hF hG0 hcalls hJ hyl hm ho.2 he hI hQ
   split at he
   case h_2=>cases he
   rename_i hc;obtain⟨hinv,hheld,hdf⟩:=hI;exact yf9 hm hF hG0 hcalls hJ hinv he λac' w' hI' hd' hsm=>hQ ac' w' (I3.less (S:=rmL S0 (U5 ops.toList)) ⟨hI',fd9 hheld hsm,by rw[hd'];exact hdf⟩ hc)
  |false =>
   refine wpIn_region ?_;rw[List.range_eq_range']
   have:=yb4 (Q:=Q) hF hG0 hcalls hJ hyl (ops.size+1) ops.toList S0 0 s x s' ac w rfl hI he hQ
   simpa using this
 |seq a b iha ihb =>
  intro cur s x s' he ac w Q hI hQ;obtain⟨x1,s1,h1,h2,h3⟩:=Zb4 he;refine wpIn_seq (iha cur s x1 s1 h1 ac w _ hI λac' w' hI'=>?_)
  cases x1 with
  |normal=>exact ihb cur s1 x s' (h2 rfl) ac' w' Q hI' hQ
  |exit id =>
   obtain⟨rfl,rfl⟩:=h3 (by simp)
   exact hQ _ _ hI'
  |ret =>
   obtain⟨rfl,rfl⟩:=h3 (by simp)
   exact hQ _ _ hI'
 |cond c a b iha ihb =>
  intro cur s x s' he ac w Q hI hQ;simp only[Qa0] at he
  split at he
  case h_2=>cases he
  rename_i hc;have he':(match c9 E s.a (o7 c) with
   |.v (.bool t)=>DT.ite t (M2 E H0.length (Qa0 E.P n pr yl S0 kp rf cur a) s) (M2 E H0.length (Qa0 E.P n pr yl S0 kp rf cur b) s)
   |_=>DT.fail).run=some (x,s'):=he
  obtain⟨ρ,F,W',up,hI2⟩:=hI.inv;have hr:=Lb6 hI2.vals hI2.size (hG0.adv hI2.core.adv) c hc
  revert he' hr
  generalize c9 E s.a (o7 c)=u;intro he' hr
  split at he'
  ·rename_i t;have ht:=mf3 hr
   rcases DT.run_ite_some he' with⟨rfl,h⟩|⟨rfl,h⟩
   ·exact wpIn_cond_true ht (iha cur s x s' h ac w Q hI hQ)
   ·exact wpIn_cond_false ht (ihb cur s x s' h ac w Q hI hQ)
  ·cases he'
 |block id a ih =>
  intro cur s x s' he ac w Q hI hQ;obtain⟨⟨x1,s1⟩,h1,h2⟩:=DT.run_bind_some (show ((M2 E H0.length (Qa0 E.P n pr yl S0 kp rf id a) s).bind λr=>l4.rec (motive:=λ_=>DT (l4×St)) (.ret (.normal,r.2))
   (λid'=>Bool.rec (.ret (.exit id',r.2)) (.ret (.normal,r.2)) (Nat.beq id' id)) (.ret (.ret,r.2)) r.1).run=some (x,s') from he)
  refine wpIn_block (ih id s x1 s1 h1 ac w _ hI λac' w' hI'=>?_)
  cases x1 with
  |normal =>
   have h2':some (l4.normal,s1)=some (x,s'):=h2;injection h2' with h2';injection h2' with e1 e2;subst e1 e2
   exact hQ _ _ hI'
  |ret =>
   have h2':some (l4.ret,s1)=some (x,s'):=h2;injection h2' with h2';injection h2' with e1 e2;subst e1 e2
   exact hQ _ _ hI'
  |exit id' =>
   have h2':(Bool.rec (motive:=λ_=>DT (l4×St)) (.ret (.exit id',s1)) (.ret (.normal,s1)) (Nat.beq id' id)).run=some (x,s'):=h2
   show if id'=id then Q .normal ac' w' else Q (.exit id') ac' w'
   cases hb:Nat.beq id' id with
   |true =>
    rw[hb] at h2';have h3:some (l4.normal,s1)=some (x,s'):=h2';injection h3 with h3;injection h3 with e1 e2;subst e1 e2
    rw[if_pos (Qad hb)];exact hQ _ _ hI'
   |false =>
    rw[hb] at h2';have h3:some (l4.exit id',s1)=some (x,s'):=h2';injection h3 with h3;injection h3 with e1 e2;subst e1 e2
    rw[if_neg (Qbl hb)];exact hQ _ _ hI'
 |loop a ih =>
  intro cur s x s' he ac w Q hI hQ;exact wpIn_loop_rounds E.N (wd6 hF hG0 hcalls hJ hyl (ih cur) E.N s x s' he ac w Q hI hQ)
 |rangeFunc g ps asq body _ _ =>
  intro cur s x s' he ac w Q hI hQ;exact hrf g ps asq body s s' x ac w Q he hI hQ
 |exit id =>
  intro cur s x s' he ac w Q hI hQ;have he':some (l4.exit id,s)=some (x,s'):=he;injection he' with he';injection he' with e1 e2;subst e1 e2
  exact wpIn_exit (hQ _ _ hI)
 |ret =>
  intro cur s x s' he ac w Q hI hQ;have he':some (l4.ret,s)=some (x,s'):=he;injection he' with he';injection he' with e1 e2;subst e1 e2
  exact wpIn_ret (hQ _ _ hI)
 |label l =>
  intro cur s x s' he ac w Q hI hQ;have he':some (l4.normal,s)=some (x,s'):=he;injection he' with he';injection he' with e1 e2;subst e1 e2
  exact wpIn_label (hQ _ _ hI)
 |_ =>
  intro cur s x s' he;cases he
end
end
def Fc6(st:LoopState)(pe:Option Code)(fn:FuncId)(tm:List Value)(ps:Array Tmp)(asq body:Code)(D:Nat):Obj :=
 .loop { state:=st,pending:=pe,fn,tmps:=tm.toArray,params:=ps,assign:=asq,body,defers:=D }
def pd7:Option Code->Option Value
 |none=>some (.int .i64 (.ofNat 0))
 |some .ret=>some (.int .i64 (.ofNat 1))
 |some (.exit id)=>some (.int .i64 (.ofNat (id+2)))
 |_=>none
def KR(l:Nat)(Ds:List Nat):Nat->Prop:=λk=>k=l\/k∈Ds
def nf5(Ds:List Nat)(w:World):Prop:=∀d∈Ds,w.heap[d]?=some (.deferred (some []))
def JI(l D:Nat)(Ds:List Nat)(fn:FuncId)(tm:List Value)(ps:Array Tmp)(asq body:Code)(up:List Value)(w:World):Prop :=
 ∃pe v,pd7 pe=some v/\up=v::tm/\w.heap[l]?=some (Fc6 (if pe.isNone then .ready else .done) pe fn tm ps asq body D)/\nf5 Ds w
def JR(l D:Nat)(Ds:List Nat)(fn:FuncId)(tm:List Value)(ps:Array Tmp)(asq body:Code)(st:LoopState)(inn:List Value)(up:List Value)(w:World):Prop :=
 up=inn++Value.int .i64 (.ofNat 0)::tm/\w.heap[l]?=some (Fc6 st none fn tm ps asq body D)/\nf5 Ds w
def noD:List Deferred->Prop:=λds=>ds=[]
theorem Of4(l D:Nat)(Ds:List Nat)(fn:FuncId)(tm:List Value)(ps:Array Tmp)(asq body:Code):Ec6 (KR l Ds) (JI l D Ds fn tm ps asq body):=λup w w' h ⟨pe,v,h1,h2,h3,h4⟩ =>
 ⟨pe,v,h1,h2,(h l (.inl rfl)).trans h3,λd hd=>(h d (.inr hd)).trans (h4 d hd)⟩
theorem Of5(l D:Nat)(Ds:List Nat)(fn:FuncId)(tm:List Value)(ps:Array Tmp)(asq body:Code)(st:LoopState)(inn:List Value):Ec6 (KR l Ds) (JR l D Ds fn tm ps asq body st inn):=λup w w' h ⟨h1,h2,h3⟩ =>
 ⟨h1,(h l (.inl rfl)).trans h2,λd hd=>(h d (.inr hd)).trans (h3 d hd)⟩
section
variable{P:Program}{WB K:Nat->Prop}{J J':List Value->World->Prop}{DF:List Deferred->Prop}{S S0:HL}{rv:Value}{ρ ρ0:Rho}{H H0 H':List c7}{F F0:Fz}{w w0 w':World}{W':Nat->Prop}{up up':List Value}{E:Env}{n m:Nat}{Fe:Fence}{a:List b7}{ac:Act}{ds ds':List Deferred}
theorem C2.re(h:C2 P WB K J ρ0 H0 F0 w0 H ds w ρ F W' up)(hJ:J' up' w)(hM:Uc4 WB W' ds' w):C2 P WB K J' ρ0 H0 F0 w0 H ds' w ρ F W' up' :=
 ⟨h.sub,h.adv,h.hrel,h.srel,h.kept,h.far,hJ,hM⟩
theorem nf5.turn{w:World}{l:Nat}{r:Loop}{Ds:List Nat}(h:nf5 Ds w)(hl:w.heap[l]?=some (.loop r))(o:Obj):nf5 Ds (w.putObj l o):=λd hd=>by
 have hne:d≠l:=λe=>by
  have:=h d hd
  rw[e,hl] at this;cases this
 rw[World.putObj_heap_other hne];exact h d hd
theorem Pc8:Uc4 WB W' [] w:=⟨λd hd=>by simp at hd,List.nodup_nil⟩
theorem nf6{k:Nat}{o:Obj}(hk:w.heap[k]?=some o)(ho:∀cc t fr,o≠.cells cc t fr)(b:Nat):w.cell? ⟨k,b,none⟩=none:=by
 cases o with
 |cells=>exact (ho _ _ _ rfl).elim
 |_=>simp[World.cell?,hk]
theorem C2.turn(h:C2 P WB K J ρ0 H0 F0 w0 H ds w ρ F W' up)(k:Nat)(o o':Obj)(hk:w.heap[k]?=some o)(ho:∀cc t fr,o≠.cells cc t fr)(hm:∀es clk,o≠.map es clk)(hWB:WB k)(hnW:¬ W' k)
  (hJ:J' up' (w.putObj k o')) (hM:Uc4 WB W' ds' (w.putObj k o')):C2 P WB K J' ρ0 H0 F0 w0 H ds' (w.putObj k o') ρ F W' up'/\Tr ρ H F w ρ H F (w.putObj k o'):=by
 have hlt:=(Qak.1 hk).1;have hnF:∀b,¬ F k b:=λb hf=>by
  have:=h.hrel.frz k b hf
  rw[nf6 hk ho b] at this;cases this
 have hbase:C2 P WB K (λ_ _=>True) ρ0 H0 F0 w0 H [] w ρ F W' up':=h.re trivial Pc8
 obtain⟨c1,c2⟩:=hbase.change (w':=w.putObj k o') (H':=H) (up':=up') k hWB hnW hnF rfl rfl rfl (Qaf _) (by simp) (λj hj=>World.putObj_heap_other hj)
  (λcc t fr hc=>by rw[hk] at hc;injection hc with hc;exact (ho _ _ _ hc).elim) rfl (λid b hb=>⟨b,hb,rfl,rfl,rfl,rfl,Qaf _,λ_=>rfl⟩) (λid b hb _ _ _=>hb)
  (λ_ id b hb hs hd e=>by
   obtain⟨_,_,_,_,hc⟩:=h.srel.has id b hb hs hd;rw[e] at hc
   rcases hc with⟨_,row,vs,t,_,m2,_⟩|⟨t,Kt,El,fl,es,clk,_,_,_,m4,_⟩
   ·rw[hk] at m2;injection m2 with m2;exact (ho _ _ _ m2).elim
   ·rw[hk] at m4;injection m4 with m4;exact (hm _ _ m4).elim)
  trivial (λD hD=>by simp at hD)
 exact⟨c1.re hJ hM,c2⟩
end
section
variable{P:Program}{WB K:Nat->Prop}{J J':List Value->World->Prop}{DF:List Deferred->Prop}{S S0:HL}{rv:Value}{ρ ρ0:Rho}{H H0 H':List c7}{F F0:Fz}{w w0 w':World}{W':Nat->Prop}{up up':List Value}{E:Env}{n m:Nat}{Fe:Fence}{a b:List b7}{ac:Act}{ds ds':List Deferred}{vs us:List Value}
theorem VR.drop(h:VR ρ H F w a (vs++us)){k:Nat}(hk:vs.length=k):VR ρ H F w (s9 a k) us:=by
 have hl:=h.1;rw[Qdc] at hl;rw[I9];refine⟨by rw[List.length_drop];omega,λi x x' hx hx'=>?_⟩
 rw[Qbg] at hx;refine h.2 (k+i) x x' hx ?_
 grind
theorem VR.take(h:VR ρ H F w a (vs++us)){k:Nat}(hk:vs.length=k):VR ρ H F w (J6 a k) vs:=by
 have hl:=h.1;rw[Qdc] at hl;rw[J7];refine⟨by rw[List.length_take];omega,λi x x' hx hx'=>?_⟩
 have hi:=(Qab.1 hx').1;rw[Qap,if_pos (by omega)] at hx
 exact h.2 i x x' hx (by rw[Qbb hi];exact hx')
theorem VR.app(h:VR ρ H F w a vs)(h':VR ρ H F w b us):VR ρ H F w (Ev.app a b) (vs++us):=by
 rw[K6];refine⟨by rw[Qdc,Qdc,h.1,h'.1],λi x x' hx hx'=>?_⟩
 rcases Qaq i a.length with hi|hi
 ·rw[Qbb hi] at hx;rw[Qbb (h.1 ▸ hi)] at hx';exact h.2 i x x' hx hx'
 ·rw[Qba hi] at hx;rw[Qba (h.1 ▸ hi)] at hx';rw[h.1] at hx;exact h'.2 _ x x' hx hx'
theorem VR.cons{x:b7}{x':Value}(hx:XW ρ H F w x x')(h:VR ρ H F w a vs):VR ρ H F w (x::a) (x'::vs):=by
 refine⟨by simp[h.1],λi y y' hy hy'=>?_⟩
 cases i with
 |zero=>simp at hy hy';subst hy hy';exact hx
 |succ i=>exact h.2 i y y' (by simpa using hy) (by simpa using hy')
theorem VR.head{v:Value}(h:VR ρ H F w a (v::vs)):XW ρ H F w (hdA a) v:=by
 cases a with
 |nil=>exact .w (.unk _)
 |cons x a=>exact h.2 0 x v rfl rfl
theorem VR.set(h:VR ρ H F w a vs){x:b7}{x':Value}(hx:XW ρ H F w x x')(k:Nat):VR ρ H F w (setAt a k x) (vs.set k x'):=by
 rw[H6];refine⟨by simp[h.1],λi y y' hy hy'=>?_⟩
 rw[List.getElem?_set] at hy hy';by_cases hi:k=i
 ·simp_all
 ·rw[if_neg hi] at hy hy';exact h.2 i y y' hy hy'
theorem VR.setUp{v0 v:Value}{x:b7}(h:VR ρ H F w a (vs++v0::us)){k:Nat}(hk:vs.length=k)(hx:XW ρ H F w x v):VR ρ H F w (setAt a k x) (vs++v::us):=by
 have:=h.set hx k
 simp_all
theorem bf4:∀(ps:List Nat) (vals:List b7) (avs:List Value) (base:List b7) (arr:List Value),vals.length=ps.length->avs.length=ps.length->(∀(i:Nat) x x',vals[i]?=some x->avs[i]?=some x'->XW ρ H F w x x')->VR ρ H F w base arr ->
  VR ρ H F w (dg5 ps vals base) ((ps.zip avs).foldl (λt pv=>t.set pv.1 pv.2) arr)
 |[],vals,avs,base,arr,h1,h2,h3,h4=>h4
 |p::ps,[],avs,base,arr,h1,h2,h3,h4=>by simp at h1
 |p::ps,v::vals,[],base,arr,h1,h2,h3,h4=>by simp at h2
 |p::ps,v::vals,u::avs,base,arr,h1,h2,h3,h4 =>
  bf4 ps vals avs (setAt base p v) (arr.set p u) (by simpa using h1) (by simpa using h2) (λi x x' hx hx'=>h3 (i+1) x x' (by simpa using hx) (by simpa using hx')) (h4.set (h3 0 v u rfl rfl) p)
theorem fe9:∀(l:List (Nat×Value)) (t:Array Value),(l.foldl (λt pv=>t.setIfInBounds pv.1 pv.2) t).toList=l.foldl (λt pv=>t.set pv.1 pv.2) t.toList
 |[],t=>rfl
 |(p,v)::l,t=>by
  simp only[List.foldl_cons];rw[fe9 l,Array.toList_setIfInBounds]
theorem Ld3(ps:Array Nat)(args:Array Value)(t:Array Value):((ps.zip args).foldl (λtmps (t,a)=>tmps.setIfInBounds t a) t).toList=(ps.toList.zip args.toList).foldl (λt pv=>t.set pv.1 pv.2) t.toList:=by
 rw[<- Array.foldl_toList,Array.toList_zip];exact fe9 _ t
theorem De9(ps:Array Nat)(args:Array Value)(t:Array Value):((ps.zip args).foldl (λtmps (t,a)=>tmps.setIfInBounds t a) t).size=t.size:=by
 rw[<- Array.length_toList,Ld3,<- Array.length_toList];generalize ps.toList.zip args.toList=l;generalize t.toList=tl
 induction l generalizing tl with
 |nil=>rfl
 |cons p l ih=>rw[List.foldl_cons,ih];simp
theorem pe2{x:b7}(h:Ed0 x=true):x=.v (.int .i64 (.ofNat 0)):=by
 unfold Ed0 at h
 split at h
 ·split at h
  ·rfl
  ·cases h
 ·cases h
theorem nf7{pe:Option Code}(h:pd7 pe=some (.int .i64 (.ofNat 0))):pe=none:=by
 unfold pd7 at h
 grind
variable{l D:Nat}{Ds:List Nat}{fnO:FuncId}{tm:List Value}{ps:Array Tmp}{asC bodyC:Code}{rd:Rd}{k:Nat}
def Se8(E:Env)(WB:Nat->Prop)(l D:Nat)(Ds:List Nat)(fnO:FuncId)(tm:List Value)(ps:Array Tmp)(asC bodyC:Code)(nOut:Nat)(ρ0:Rho)(H0:List c7)(F0:Fz)(w0:World)(Fe:Fence)(m k:Nat)(st:LoopState)(c:Code)(pc:PC):Prop :=
 ∀(inn:List Value) (s:St) (x:l4) (s':St),(M2 E k pc s).run=some (x,s')->∀(ac:Act) (w:World) (Q:Exit->Act->World->Prop),
  I3 E.P WB (KR l Ds) (JR l D Ds fnO tm ps asC bodyC st inn) nOut [] undef noD ρ0 H0 F0 w0 s ac w ->
  (∀ac' w',I3 E.P WB (KR l Ds) (JR l D Ds fnO tm ps asC bodyC st inn) nOut [] undef noD ρ0 H0 F0 w0 s' ac' w'->Q (toX x) ac' w')->c.wpIn (Fe.inRound l) m E.P Q ac w
theorem Of6(hF:FW Fe)(hG0:GOk E F0 w0)(hps:rd.ps=ps.toList)(hnO:tm.length=rd.nOut)(hWl:WB l)
  (hAs:Se8 E WB l D Ds fnO tm ps asC bodyC rd.nOut ρ0 H0 F0 w0 Fe (m-1) k .ready asC rd.asq) (hBo:Se8 E WB l D Ds fnO tm ps asC bodyC rd.nOut ρ0 H0 F0 w0 Fe (m-1) k .busy bodyC rd.body) :
  YOk E Fe m n k rd λS=>I3 E.P WB (KR l Ds) (JI l D Ds fnO tm ps asC bodyC) n S (.func (.yield l) #[] #[]) noD ρ0 H0 F0 w0:=by
 intro ops i o S args g s s' xx ac w rest Q hi hy hg hgn hdn hlt hlen hI he hQ;obtain⟨⟨ρ,F,W',up,hI2⟩,hheld,hdf⟩:=hI;obtain⟨pe,v,hpe,rfl,hrec,hdd⟩:=hI2.core.jot
 obtain ⟨s1, h1, h2⟩ := DT.run_bind_some (show ((Dd9 E s o.dst g fun s => match Ed0 (hdA (s9 s.a n)) with
   |true=>(M2 E k rd.asq (le0 E s (args.map o7) n rd.nOut rd.ps)).bind λr0 =>
    l4.rec (motive:=λ_=>DT St) ((M2 E k rd.body r0.2).bind λr=>.ret (Gd2 o.dst n rd.nOut r)) (λ_=>.fail) .fail r0.1
   |false=>.fail).bind λs=>.ret (l4.normal,s)).run=some (xx,s') from he)
 have h2:some (l4.normal,s1)=some (xx,s'):=h2;injection h2 with h2;injection h2 with e1 e2;subst e1 e2
 have hQ:=hQ rfl;simp only[wpOpsIn,hi]
 rcases Uc7 hg hgn hI2.vals hI2.size h1 with⟨hw,hd⟩|⟨hw,rfl⟩
 case inr =>
  rw[if_neg (by simp[hw])]
  exact⟨λf _=>hF.fn f,hQ _ _ ⟨⟨ρ,F,W',_,by rw[E2];exact hI2.core,hI2.vals.putA hI2.size hdn (.w (.ofv _)),(ia7 _ _).trans hI2.size⟩,Sb0 hheld,by rw[E2];exact hdf⟩⟩
 rw[if_pos hw];have htl:ac.tmps.toList.length=n:=by rw[Array.length_toList];exact hI2.size
 have hup:VR ρ s.H F w (s9 s.a n) (v::tm):=hI2.vals.drop htl
 split at hd
 case h_2=>cases hd
 rename_i hnd;have hv0:v=.int .i64 (.ofNat 0):=by
  have:=hup.head
  rw[pe2 hnd] at this;exact mf3 this
 subst hv0;have hpe0:=nf7 hpe;subst hpe0;have hrec:w.heap[l]?=some (Fc6 .ready none fnO tm ps asC bodyC D):=hrec;obtain⟨⟨x0,s2⟩,h3,h4⟩:=DT.run_bind_some hd;cases x0 with
 |exit id=>cases h4
 |ret=>cases h4
 |normal =>
 obtain⟨⟨x2,s3⟩,h5,h6⟩:=DT.run_bind_some h4;have h6:some (Gd2 o.dst n rd.nOut (x2,s3))=some s1:=h6;injection h6 with h6;subst h6
 -- the operation asks for a round
 unfold fd7 at hy
 split at hy
 case h_2=>cases hy
 rename_i c ho
 split at hy
 case h_2=>cases hy
 rename_i t hcal;rw[hg] at hy
 simp only at hy
 split at hy
 case isFalse=>cases hy
 rename_i hS;injection hy with hy;have hev:ac.eval (.tmp t)=.func (.yield l) #[] #[]:=by
  have ht:=pd2 hheld hS ((Fc4 hg).1 hw);show ac.tmps.getD t undef=_
  simp_all
 have hnd':∀c',o.op≠.defer c':=λc' e=>by rw[ho] at e;cases e
 have hasz:(c.args.map ac.eval).size=ps.size:=by
  grind
 have hyield:=run_yield (P:=E.P) (args:=c.args.map ac.eval) hrec hasz;have hsem:(o.semAt Fe.round ac.eval).run E.P w=.ok (.round l fnO ((ps.zip (c.args.map ac.eval)).foldl (λtmps (t,a)=>tmps.setIfInBounds t a) tm.toArray) asC bodyC) w:=by
  rw[Oper.semAt_eq _ _ _ hnd'];have e:(execOp ac.eval o).run E.P w=(Instr.yield l (c.args.map ac.eval)).run E.P w:=by
   have hres:resolve ac.eval c o.type=pure { target:=.fn (.yield l) #[],args:=c.args.map ac.eval }:=by
    unfold resolve;rw[hcal]
    simp only
    rw[hev];simp[Deferred.ofValue]
   have e1:execOp ac.eval o=(do let d <- resolve ac.eval c o.type;invoke d.target d.args):=by
    unfold execOp;rw[ho]
   rw[e1,hres];rfl
  rw[e];exact hyield
 refine⟨λf _=>hF.fn f,?_⟩
 rw[hsem,Oper.uponIn_round];refine⟨λhd=>hF.depS hd,roundIn_of_wpIn (hF.fn _) ?_⟩
 -- the round's frame
 have hm0:C2 E.P WB (KR l Ds) (JR l D Ds fnO tm ps asC bodyC .ready ac.tmps.toList) ρ0 H0 F0 w0 s.H [] w ρ F W' (ac.tmps.toList++Value.int .i64 (.ofNat 0)::tm):=hI2.core.re ⟨rfl,hrec,hdd⟩ Pc8;have hbase:VR ρ s.H F w (J6 (s9 s.a (n+1)) rd.nOut) tm:=by
  have h0:VR ρ s.H F w s.a ((ac.tmps.toList++[Value.int .i64 (.ofNat 0)])++(tm++[])):=by simpa using hI2.vals
  exact (h0.drop (by simp[htl])).take hnO
 have hargs:∀(j:Nat) x x',(s5 (c9 E s.a) (args.map o7))[j]?=some x->(c.args.map ac.eval).toList[j]?=some x'->XW ρ s.H F w x x':=λj x x' hx hx'=>by
  rw[s8,List.map_map,Qbe] at hx;rw[Array.toList_map,hy,Qbe] at hx';cases hq:args[j]? with
  |none=>rw[hq] at hx;cases hx
  |some q =>
   rw[hq] at hx hx';injection hx with hx;injection hx' with hx'
   subst hx hx';rw[Qcc] at hlt;exact Lb6 hI2.vals hI2.size (hG0.adv hI2.core.adv) q (hlt q (Qbc hq))
 have hfr : I3 E.P WB (KR l Ds) (JR l D Ds fnO tm ps asC bodyC .ready ac.tmps.toList) rd.nOut [] undef noD ρ0 H0 F0 w0 (le0 E s (args.map o7) n rd.nOut rd.ps)
   { tmps:=(ps.zip (c.args.map ac.eval)).foldl (λtmps (t,a)=>tmps.setIfInBounds t a) tm.toArray,defers:=[] } w:=by
  refine⟨⟨ρ,F,W',_,hm0,?_,?_⟩,λt ht=>by simp at ht,rfl⟩
  ·show VR ρ s.H F w (app (dg5 rd.ps (s5 (c9 E s.a) (args.map o7)) (J6 (s9 s.a (n+1)) rd.nOut)) s.a) _;refine VR.app ?_ hI2.vals;rw[Ld3,hps]
   have:=bf4 (ρ:=ρ) (H:=s.H) (F:=F) (w:=w) ps.toList (s5 (c9 E s.a) (args.map o7)) (c.args.map ac.eval).toList _ tm (by rw[s8];simp[hlen,hps]) (by rw[Array.length_toList,hasz,Array.length_toList]) hargs hbase
   simpa using this
  ·rw[De9];simpa using hnO
 refine hAs ac.tmps.toList _ .normal s2 h3 _ w _ hfr λac1 w1 hI1=>?_
 obtain⟨⟨ρ1,F1,W1,up1,hI1⟩,_,hdf1⟩:=hI1;obtain⟨rfl,hrec1,hdd1⟩:=hI1.core.jot;refine⟨_,run_beginRound hrec1 rfl,?_⟩;have hKl:KR l Ds l:=.inl rfl;obtain⟨b1,b2⟩:=hI1.core.turn (J':=JR l D Ds fnO tm ps asC bodyC .busy ac.tmps.toList) (up':=ac.tmps.toList++Value.int .i64 (.ofNat 0)::tm) (ds':=ac1.defers) l _ (Fc6 .busy none fnO tm ps asC bodyC D) hrec1 (λ_ _ _ e=>by cases e) (λ_ _ e=>by cases e) hWl (hI1.core.kept l hKl).1
  ⟨rfl,World.putObj_heap_same (hI1.core.kept l hKl).2,hdd1.turn hrec1 _⟩ (by have:ac1.defers=[]:=hdf1;rw[this];exact Pc8)
 refine hBo ac.tmps.toList s2 x2 s3 h5 ac1 _ _ ⟨⟨ρ1,F1,W1,_,b1,hI1.vals.tr b2,hI1.size⟩,λt ht=>by simp at ht,hdf1⟩ λac2 w2 hI3=>?_
 obtain⟨⟨ρ2,F2,W2,up2,hI3⟩,_,hdf3⟩:=hI3;obtain⟨rfl,hrec2,hdd2⟩:=hI3.core.jot;have hdefs:ac.defers=[]:=hdf;have hkl:=(hI3.core.kept l hKl);have hdrop:VR ρ2 s3.H F2 w2 (s9 s3.a rd.nOut) (ac.tmps.toList++Value.int .i64 (.ofNat 0)::tm):=hI3.vals.drop (by rw[Array.length_toList];exact hI3.size)
 have hfin:∀(pe:Option Code) (v:Value),pd7 pe=some v->C2 E.P WB (KR l Ds) (JI l D Ds fnO tm ps asC bodyC) ρ0 H0 F0 w0 s3.H [] (w2.putObj l (Fc6 (if pe.isNone then .ready else .done) pe fnO tm ps asC bodyC D)) ρ2 F2 W2 (v::tm)/\Tr ρ2 s3.H F2 w2 ρ2 s3.H F2 (w2.putObj l (Fc6 (if pe.isNone then .ready else .done) pe fnO tm ps asC bodyC D)):=λpe v hpe =>
  hI3.core.turn l _ _ hrec2 (λ_ _ _ e=>by cases e) (λ_ _ e=>by cases e) hWl hkl.1 ⟨pe,v,hpe,rfl,World.putObj_heap_same hkl.2,hdd2.turn hrec2 _⟩ Pc8
 cases x2 with
 |normal =>
  refine⟨_,_,run_endRound none hrec2,hQ _ _ ?_⟩;obtain⟨c1,c2⟩:=hfin none _ rfl;exact⟨⟨ρ2,F2,W2,_,by rw[E2,hdefs];exact c1,(hdrop.tr c2).putA hI2.size hdn (.w (.val (.cell (.v _)))),(ia7 _ _).trans hI2.size⟩,Sb0 hheld,by rw[E2];exact hdf⟩
 |ret =>
  refine⟨_,_,run_endRound (some .ret) hrec2,hQ _ _ ?_⟩;obtain⟨c1,c2⟩:=hfin (some .ret) _ rfl;exact⟨⟨ρ2,F2,W2,_,by rw[E2,hdefs];exact c1,((hdrop.tr c2).setUp htl (.w (.val (.cell (.v _))))).putA hI2.size hdn (.w (.val (.cell (.v _)))),(ia7 _ _).trans hI2.size⟩,Sb0 hheld,by rw[E2];exact hdf⟩
 |exit id =>
  refine⟨_,_,run_endRound (some (.exit id)) hrec2,hQ _ _ ?_⟩;obtain⟨c1,c2⟩:=hfin (some (.exit id)) _ rfl;exact⟨⟨ρ2,F2,W2,_,by rw[E2,hdefs];exact c1,((hdrop.tr c2).setUp htl (.w (.val (.cell (.v _))))).putA hI2.size hdn (.w (.val (.cell (.v _)))),(ia7 _ _).trans hI2.size⟩,Sb0 hheld,by rw[E2];exact hdf⟩
end
section
variable{P:Program}{WB K K':Nat->Prop}{J J':List Value->World->Prop}{ρ ρ0:Rho}{H H0 H':List c7}{F F0:Fz}{w w0 w':World}{W':Nat->Prop}{up up':List Value}{E:Env}{n m:Nat}{a b:List b7}{ac:Act}{ds ds':List Deferred}{vs us:List Value}
theorem C2.reK(h:C2 P WB K J ρ0 H0 F0 w0 H ds w ρ F W' up)(hk:∀k,K' k->¬ W' k/\k<w.heap.size)(hf:∀(id:Nat) b,H[id]?=some b->I4 b=true->b.dead=false->¬ K' (ρ id).blk):C2 P WB K' J ρ0 H0 F0 w0 H ds w ρ F W' up :=
 ⟨h.sub,h.adv,h.hrel,h.srel,hk,hf,h.jot,h.marks⟩
def Zb5(d:Deferred):Nat:=match d.target with
 |.collected r=>r
 |_=>0
def ge0(D:Nat):Deferred:={ target:=.collected D,args:=#[] }
def nf8:List Value->World->Prop:=λup _=>up=[]
def Of7:Nat->Prop:=λ_=>False
def Eg0:List Deferred->Prop:=λ_=>True
theorem Uc4.at(h:Uc4 WB W' ds w){D:Nat}(hD:D∈ds.map Zb5):ge0 D∈ds/\w.heap[D]?=some (.deferred (some []))/\¬ W' D/\D<w.heap.size/\WB D:=by
 obtain⟨d,hd,rfl⟩:=Qbq.1 hD;obtain⟨D,rfl,h2,h3,h4,h5⟩:=h.1 d hd;exact⟨hd,h2,h3,h4,h5⟩
abbrev Of8(P:Program)(WB:Nat->Prop)(n:Nat)(ρ0:Rho)(H0:List c7)(F0:Fz)(w0:World):St->Act->World->Prop:=I3 P WB Of7 nf8 n [] undef Eg0 ρ0 H0 F0 w0
theorem Se9{x:b7}{s s':St}{xx:l4}{v:Value}{pe:Option Code}(h:(Cc3 x s).run=some (xx,s'))(hx:XW ρ H F w x v)(hp:pd7 pe=some v) :
  s'=s/\((pe=none/\xx=.normal)\/(pe=some .ret/\xx=.ret)\/∃id,pe=some (.exit id)/\xx=.exit id):=by
 unfold Cc3 at h
 split at h
 case h_2=>cases h
 rename_i n;have hv:=mf3 hx;subst hv;have hn:∀c,pd7 pe=some (.int .i64 (.ofNat c))->(c=0/\pe=none)\/(c=1/\pe=some .ret)\/∃id,c=id+2/\pe=some (.exit id):=λc hc=>by
  unfold pd7 at hc
  split at hc
  ·injection hc with hc;injection hc with _ hc;injection hc with hc;exact .inl ⟨hc.symm,rfl⟩
  ·injection hc with hc;injection hc with _ hc;injection hc with hc;exact .inr (.inl ⟨hc.symm,rfl⟩)
  ·rename_i id;injection hc with hc;injection hc with _ hc;injection hc with hc;exact .inr (.inr ⟨id,hc.symm,rfl⟩)
  ·cases hc
 rcases hn n hp with⟨rfl,rfl⟩|⟨rfl,rfl⟩|⟨id,rfl,rfl⟩
 ·simp_all
 ·simp_all
 simp_all
theorem Ee0{caps:List b7}{cv:Array Value}{nIn l:Nat}{s:St}{tm:List Value}(hl:caps.length=cv.size)(hc:∀(i:Nat) x x',caps[i]?=some x->cv[i]?=some x'->XW ρ H F w x x')(hs:VR ρ H F w s.a tm)(hle:caps.length+1<=nIn) :
  VR ρ H F w (oc5 caps nIn s).a ((#[Value.func (.yield l) #[] #[]]++cv++Array.replicate (nIn-(#[Value.func (.yield l) #[] #[]]++cv).size) undef).toList++Value.int .i64 (.ofNat 0)::tm):=by
 have e:(#[Value.func (.yield l) #[] #[]]++cv++Array.replicate (nIn-(#[Value.func (.yield l) #[] #[]]++cv).size) undef).toList++Value.int .i64 (.ofNat 0)::tm=(Value.func (.yield l) #[] #[]::cv.toList)++(List.replicate (nIn-(caps.length+1)) undef++(Value.int .i64 (.ofNat 0)::tm)):=by
  simp[hl,Nat.add_comm]
 rw[e];unfold oc5;simp only[z6];have hrep:∀j,VR ρ H F w (List.replicate j (.v (.tuple #[]))) (List.replicate j undef):=λj=>⟨by simp,λi x x' hx hx'=>by
  rw[Qbt] at hx hx'
  split at hx
  ·split at hx'
   ·injection hx with hx;injection hx' with hx';subst hx hx';exact .w (.ofv _)
   ·contradiction
  ·cases hx⟩
 have hcv:VR ρ H F w caps cv.toList:=⟨by simpa using hl,λi x x' hx hx'=>hc i x x' hx (by simpa using hx')⟩
 exact VR.app (VR.cons (.w (.unk _)) hcv) (VR.app (hrep _) (VR.cons (.w (.val (.cell (.v _)))) hs))
theorem Ee1(hmx:E.P.follows .mixedOrders=true){h:Fc3}{fnI:Func}{cI:Code}(hG0:GOk E F0 w0)(hcalls:∀f,l8 E.P E.G f (E.call f))(hfI:E.P.funcs[h.fi]?=some fnI)(hbI:fnI.body=some cI)(hname:fnI.name ≠ "runtime.NumGoroutine") :
  sg4 E Fence.wide m H0.length (Se0 E.P h fnI cI n) (Of8 E.P WB n ρ0 H0 F0 w0):=by
 intro g ps asq body s s' x ac w Q he hI hQ;obtain⟨⟨ρ,F,W',up,hI2⟩,_,_⟩:=hI;have hup:up=[]:=hI2.core.jot;subst hup;unfold Se0 at he
 split at he
 case h_2=>cases he
 rename_i hc;simp only[Qas] at hc;obtain⟨⟨hg,hres⟩,hpsn⟩:=hc
 have he' : (match c9 E s.a (o7 g) with
   |.fn f' caps=>match Nat.beq h.fi f'&&(Nat.ble (len caps+1) fnI.ntmps&&!Nat.ble bfB h.fi) with
    | true => (M2 E H0.length (Qa0 E.P fnI.ntmps [] (some (sg0 E.P h n ps asq body)) [(0, none)] (nf2 h.ki) fd8 0 cI) (oc5 caps fnI.ntmps s)).bind fun r =>
      l4.rec (motive:=λ_=>DT (l4×St)) (Cc3 (hdA (s9 r.2.a fnI.ntmps)) ⟨s9 r.2.a (fnI.ntmps+1),r.2.H⟩) (λ_=>.fail) (Cc3 (hdA (s9 r.2.a fnI.ntmps)) ⟨s9 r.2.a (fnI.ntmps+1),r.2.H⟩) r.1
    |false=>.fail
   |_=>.fail).run=some (x,s'):=he
 have hgr:=Lb6 hI2.vals hI2.size (hG0.adv hI2.core.adv) g hg
 revert he' hgr
 generalize c9 E s.a (o7 g)=gv;intro he' hgr
 split at he'
 case h_2=>cases he'
 rename_i f' caps
 split at he'
 case h_2=>cases he'
 rename_i hck;rw[Qas,z6] at hck;obtain⟨hf',hle⟩:=hck;rw[Qas] at hle;obtain⟨hle,hlt⟩:=hle;have hlt:Nat.ble bfB h.fi=false:=by simpa using hlt
 have hf':=Qad hf';have hle:=Qae hle;subst hf';obtain⟨⟨x1,s1⟩,h1,h2⟩:=DT.run_bind_some he';have hgw:K8 ρ (A2 s.H) F w (.fn h.fi caps) (ac.eval g):=by
  cases hgr with
  |w h=>exact h
  |c h=>cases h with
   |n h=>exact .val (.cell h)
 obtain⟨cv,hgv,hcl,hcr⟩:=dc3 hgw;rw[cd7 hlt] at hgv
 -- the blocks that are laid
 obtain⟨a1,a2,a3,_⟩:=hI2.core.alloc (λ_ _ _ _ h=>h) (.deferred (some []))
 obtain⟨rec0,hrec0⟩:∃r:Loop,r={ state:=.ready,pending:=none,fn:=0,tmps:=ac.tmps,params:=ps,assign:=asq,body,defers:=w.heap.size }:=⟨_,rfl⟩;refine wpIn_rangeFunc λfn _=>?_
 obtain⟨b1,b2,b3,_⟩:=a1.alloc (λ_ _ _ _ h=>h) (.loop { state:=.ready,pending:=none,fn,tmps:=ac.tmps,params:=ps,assign:=asq,body,defers:=w.heap.size })
 have hsz1:(w.alloc (.deferred (some []))).heap.size=w.heap.size+1:=by simp
 rw[hsz1] at b1 b3;generalize hW2:(w.alloc (.deferred (some []))).alloc (.loop { state:=.ready,pending:=none,fn,tmps:=ac.tmps,params:=ps,assign:=asq,body,defers:=w.heap.size })=w2 at b1 b2;have hsz2:w2.heap.size=w.heap.size+2:=by rw[<- hW2];simp
 have hl2:w2.heap[w.heap.size+1]?=some (Fc6 .ready none fn ac.tmps.toList ps asq body w.heap.size):=by
  rw[<- hW2]
  have:=World.alloc_heap_new (w.alloc (.deferred (some []))) (.loop { state:=.ready,pending:=none,fn,tmps:=ac.tmps,params:=ps,assign:=asq,body,defers:=w.heap.size })
  rw[hsz1] at this;rw[this];simp[Fc6]
 have hd2:w2.heap[w.heap.size]?=some (.deferred (some [])):=by
  rw[<- hW2];have e:∀o:Obj,((w.alloc (.deferred (some []))).alloc o).heap[w.heap.size]?=(w.alloc (.deferred (some []))).heap[w.heap.size]?:=λo=>by
   simp only[World.alloc,Qau,Array.size_push];rw[if_neg (by omega)]
  rw[e];exact World.alloc_heap_new w _
 have hmk:=b1.marks;have hDsOk:nf5 (w.heap.size::ac.defers.map Zb5) w2:=λd hd=>by
  rcases Qbh.1 hd with rfl|hd
  ·exact hd2
  ·exact (hmk.at hd).2.1
 have hnew:C2 E.P WB (KR (w.heap.size+1) (w.heap.size::ac.defers.map Zb5)) (JI (w.heap.size+1) w.heap.size (w.heap.size::ac.defers.map Zb5) fn ac.tmps.toList ps asq body) ρ0 H0 F0 w0 s.H [] w2 ρ F _ (Value.int .i64 (.ofNat 0)::ac.tmps.toList) :=
  (b1.reK (K':=KR (w.heap.size+1) (w.heap.size::ac.defers.map Zb5)) (λk hk=>by
   rcases hk with rfl|hk
   ·exact⟨λhw=>hw.2 rfl,by omega⟩
   ·rcases Qbh.1 hk with rfl|hk
    ·exact⟨λhw=>hw.1.2 rfl,by omega⟩
    ·exact⟨(hmk.at hk).2.2.1,(hmk.at hk).2.2.2.1⟩)
   (λid b hb hs hd hk=>by
    obtain⟨_,_,_,k4,k5⟩:=hI2.core.srel.has id b hb hs hd;obtain⟨_,_,_,_,k6⟩:=b1.srel.has id b hb hs hd
    rcases hk with hk|hk
    ·omega
    ·rcases Qbh.1 hk with hk|hk
     ·omega
     ·have hdd:=(hmk.at hk).2.1
      rcases k6 with⟨_,row,vs,t,_,m2,_⟩|⟨t,Kt,El,fl,es,clk,_,_,_,m4,_⟩
      ·rw[hdd] at m2;cases m2
      ·rw[hdd] at m4;cases m4)).re ⟨none,_,rfl,rfl,hl2,hDsOk⟩ Pc8
 have htr:Tr ρ s.H F w ρ s.H F w2:=λx x' hx=>b2 _ _ (a2 _ _ hx)
 have hcb:Rb3 E.P h.fi:=⟨fnI,hfI,by simp[hbI],hname⟩
 refine⟨w.heap.size+1,[ge0 w.heap.size],w2,{ target:=.fn (.func h.fi) cv,args:=#[.func (.yield (w.heap.size+1)) #[] #[]] },w2,h.fi,#[.func (.yield (w.heap.size+1)) #[] #[]]++cv,w2,?_,?_,λ_ _=>trivial,?_,λhd=>FW.wide.depS hd,?_⟩
 ·rw[<- hW2];exact run_enterLoop_outer _ _ _ _ _
 ·simp only[resolve,rangeCall,hgv];simp[Deferred.ofValue];rfl
 ·simp only[invoke];exact Nb0 hcb _
 refine callsIn_of_wp hfI hbI trivial ?_
 -- the iterator's frame
 have hI0 : I3 E.P WB (KR (w.heap.size + 1) (w.heap.size :: ac.defers.map Zb5)) (JI (w.heap.size + 1) w.heap.size (w.heap.size :: ac.defers.map Zb5) fn ac.tmps.toList ps asq body) fnI.ntmps [(0, none)] (.func (.yield (w.heap.size + 1)) #[] #[]) noD ρ0 H0 F0 w0 (oc5 caps fnI.ntmps s)
   { tmps:=#[Value.func (.yield (w.heap.size+1)) #[] #[]]++cv++Array.replicate (fnI.ntmps-(#[Value.func (.yield (w.heap.size+1)) #[] #[]]++cv).size) undef,defers:=[] } w2:=by
  refine⟨⟨ρ,F,_,_,hnew,?_,?_⟩,λt ht _=>?_,rfl⟩
  ·refine Ee0 hcl (λi x x' hx hx'=>htr _ _ (.w (.val (.cell (hcr i x x' hx hx'))))) ?_ hle
   have h0:=hI2.vals.tr htr;rw[Qbu] at h0;exact h0
  ·simp only[Array.size_append,Qfd]
   have:(#[Value.func (.yield (w.heap.size+1)) #[] #[]]:Array Value).size=1:=rfl
   omega
  ·have:t=(0,none):=by simpa using ht
   subst this;rw[Array.append_assoc,Qdb (show 0<1 by omega)]
   rfl
 have hWl:WB (w.heap.size+1):=b3;have hpart:∀(st:LoopState) (c:Code),Se8 E WB (w.heap.size+1) w.heap.size (w.heap.size::ac.defers.map Zb5) fn ac.tmps.toList ps asq body n ρ0 H0 F0 w0 Fence.wide (m-1-1) H0.length st c (Qa0 E.P n h.pr none [] (nf2 h.kp) fd8 0 c):=λst c inn s x s' he ac w Q hI hQ =>
  Zc0 (FW.inRound _) hG0 hcalls (Of5 _ _ _ _ _ _ _ _ _ _) (λrd hrd=>by cases hrd) hmx (λg ps asq body s s' x ac w Q he=>by cases he) c 0 s x s' he ac w Q hI hQ
 refine Zc0 (Fe:=Fence.wide) FW.wide hG0 hcalls (Of4 _ _ _ _ _ _ _ _) (λrd hrd=>?_) hmx (λg ps asq body s s' x ac w Q he=>by cases he) cI 0 _ x1 s1 h1 _ w2 _ hI0 λac3 w3 hI3=>?_
 ·injection hrd with hrd;subst hrd;exact Of6 FW.wide hG0 rfl (by rw[Array.length_toList];exact hI2.size) hWl (hpart .ready asq) (hpart .busy body)
 obtain⟨⟨ρ3,F3,W3,up3,hI3⟩,_,hdf3⟩:=hI3;obtain⟨pe,v,hpe,rfl,hrec3,hds3⟩:=hI3.core.jot;have hpX:(Cc3 (hdA (s9 s1.a fnI.ntmps)) ⟨s9 s1.a (fnI.ntmps+1),s1.H⟩).run=some (x,s')/\∀id,x1≠.exit id:=by
  cases x1 with
  |normal=>exact⟨h2,λ_ e=>by cases e⟩
  |ret=>exact⟨h2,λ_ e=>by cases e⟩
  |exit id=>cases h2
 obtain⟨hpX,hne⟩:=hpX;have htl3:ac3.tmps.toList.length=fnI.ntmps:=by rw[Array.length_toList];exact hI3.size
 have hdr:VR ρ3 s1.H F3 w3 (s9 s1.a fnI.ntmps) (v::ac.tmps.toList):=hI3.vals.drop htl3;obtain⟨rfl,hcase⟩:=Se9 hpX hdr.head hpe;have hKl:KR (w.heap.size+1) (w.heap.size::ac.defers.map Zb5) (w.heap.size+1):=.inl rfl;have hkl:=hI3.core.kept _ hKl;have hM4:∀o:Obj,Uc4 WB W3 (ge0 w.heap.size::ac.defers) (w3.putObj (w.heap.size+1) o):=λo=>by
  refine⟨λd hd=>?_,List.nodup_cons.2 ⟨λhd=>?_,hI2.core.marks.2⟩⟩
  ·have hD : Zb5 d ∈ w.heap.size :: ac.defers.map Zb5 := by
    rcases Qbh.1 hd with rfl|hd
    ·exact .head _
    ·exact .tail _ (Qbq.2 ⟨d,hd,rfl⟩)
   have hk:=hI3.core.kept _ (.inr hD:KR (w.heap.size+1) (w.heap.size::ac.defers.map Zb5) (Zb5 d));refine⟨Zb5 d,?_,(hds3.turn hrec3 o) _ hD,hk.1,by rw[World.putObj_size];exact hk.2,?_⟩
   ·rcases Qbh.1 hd with rfl|hd
    ·rfl
    ·obtain⟨D,rfl,_⟩:=hI2.core.marks.1 d hd;rfl
   ·rcases Qbh.1 hd with rfl|hd
    ·exact a3
    ·exact (hI2.core.marks.at (Qbq.2 ⟨d,hd,rfl⟩)).2.2.2.2
  ·have:=(hI2.core.marks.at (Qbq.2 ⟨_,hd,rfl⟩)).2.2.2.1
   exact Nat.lt_irrefl _ this
 obtain⟨d1,d2⟩:=hI3.core.turn (J':=nf8) (up':=[]) (ds':=ge0 w.heap.size::ac.defers) (w.heap.size+1) _ (Fc6 .exhausted pe fn ac.tmps.toList ps asq body w.heap.size) hrec3 (λ_ _ _ e=>by cases e) (λ_ _ e=>by cases e) hWl hkl.1 rfl (hM4 _)
 have hIe:Of8 E.P WB n ρ0 H0 F0 w0 ⟨s9 s1.a (fnI.ntmps+1),s1.H⟩ { ac with defers:=[ge0 w.heap.size]++ac.defers } (w3.putObj (w.heap.size+1) (Fc6 .exhausted pe fn ac.tmps.toList ps asq body w.heap.size)):=by
  refine⟨⟨ρ3,F3,W3,[],d1.reK (λk hk=>hk.elim) (λ_ _ _ _ _ hk=>hk.elim),?_,hI2.size⟩,λt ht=>by simp at ht,trivial⟩
  have h0:VR ρ3 s1.H F3 w3 s1.a ((ac3.tmps.toList++[v])++ac.tmps.toList):=by simpa using hI3.vals
  have:=(h0.drop (k:=fnI.ntmps+1) (by simp[htl3])).tr d2
  simpa using this
 have hend:(Instr.endLoop (w.heap.size+1)).run E.P w3=.ok pe (w3.putObj (w.heap.size+1) (Fc6 .exhausted pe fn ac.tmps.toList ps asq body w.heap.size)) :=
  run_endLoop hrec3 (by cases pe<;>simp)
 have hpost:rangePost Fence.wide m E.P (w.heap.size+1) Q { ac with defers:=[ge0 w.heap.size]++ac.defers } (.returned (.tuple #[])) w3:=by
  refine⟨pe,_,hend,?_⟩
  rcases hcase with⟨rfl,rfl⟩|⟨rfl,rfl⟩|⟨id,rfl,rfl⟩
  ·exact hQ _ _ hIe
  ·exact wpIn_ret (hQ _ _ hIe)
  ·exact wpIn_exit (hQ _ _ hIe)
 have hresults:(results fnI ac3.tmps).run E.P w3=.ok (.tuple #[]) w3:=by
  have h0:fnI.results=#[]:=Array.eq_empty_of_size_eq_zero (Qad hres);simp[results,h0]
 cases x1 with
 |normal=>exact⟨hdf3,_,hresults,hpost⟩
 |ret=>exact⟨hdf3,_,hresults,hpost⟩
 |exit id=>exact absurd rfl (hne id)
end
section
variable{P:Program}{W WB:Nat->Prop}{ρ ρ0:Rho}{H H0:List c7}{F F0:Fz}{w w0:World}{W':Nat->Prop}{E:Env}{n:Nat}{ds:List Deferred}
theorem gd0:∀{H:List c7},De3 H=true->∀(id:Nat) b,H[id]?=some b->I4 b=false
 |[],_,id,b,hb=>by simp at hb
 |c::H,h,id,b,hb=>by
  have h:Bool.rec (motive:=λ_=>Bool) (De3 H) false (I4 c)=true:=h
  cases hc:I4 c with
  |true=>rw[hc] at h;cases h
  |false =>
   rw[hc] at h;cases id with
   |zero=>simp at hb;subst hb;exact hc
   |succ id=>exact gd0 h id b (by simpa using hb)
theorem Te0(h:De3 H=true):A2 H=H:=by
 refine Qce λid=>?_
 cases hb:H[id]? with
 |none=>rw[Rb9,Qbe,hb];rfl
 |some b=>exact ga5 hb (gd0 h id b hb)
theorem J0.more(h:J0 W' ρ H F w)(hs:∀k,W' k->W k):J0 W ρ H F w :=
 ⟨λid b hb hd=>by
  obtain⟨cc,t,fr,hB⟩:=h.blk id b hb hd;exact⟨cc,t,fr,hB.obj,hB.room,hB.len,hB.rows,hB.cell,λho=>⟨(hB.own ho).1,hs _ (hB.own ho).2.1,(hB.own ho).2.2⟩,hB.kept⟩,h.apart,h.frz,λk hk=>hs k (h.new k hk)⟩
theorem gd1{Fe:Fence}{m:Nat}{fn:Func}{tmps:Array Value}{R:Ending->World->Prop}:∀(ds:List Deferred) (w:World),C2 P WB Of7 nf8 ρ0 H0 F0 w0 H ds w ρ F W' [] ->
  (∀w'',C2 P WB Of7 nf8 ρ0 H0 F0 w0 H [] w'' ρ F W' []->Tr ρ H F w ρ H F w''->LeavesIn Fe m P fn tmps R [] .returning w'')->LeavesInM Fe m P fn tmps R ds .returning w
 |[],w,hC,hR=>hR w hC λ_ _ h=>h
 |d::ds,w,hC,hR=>by
  obtain⟨D,rfl,h2,h3,h4,h5⟩:=hC.marks.1 d (.head _);have hnd:=List.nodup_cons.1 hC.marks.2;obtain⟨c1,c2⟩:=hC.turn (J':=nf8) (up':=[]) (ds':=ds) D _ (.deferred none) h2 (λ_ _ _ e=>by cases e) (λ_ _ e=>by cases e) h5 h3 rfl
   ⟨λd' hd'=>by
    obtain⟨D',rfl,k2,k3,k4,k5⟩:=hC.marks.1 d' (.tail _ hd');have hne:D'≠D:=λe=>hnd.1 (e ▸ hd')
    exact⟨D',rfl,by rw[World.putObj_heap_other hne];exact k2,k3,by rw[World.putObj_size];exact k4,k5⟩,hnd.2⟩
  refine⟨by simp,.inl ⟨D,_,rfl,run_takeDeferred h2,gd1 ds _ c1 λw'' hC' ht=>hR w'' hC' λx x' hx=>ht _ _ (c2 _ _ hx)⟩⟩
theorem nf9(hmx:E.P.follows .mixedOrders=true){f:FuncId}{fn fnI:Func}{pf:PFn}{h:Fc3}(hf:E.P.funcs[f]?=some fn)(hname:fn.name ≠ "runtime.NumGoroutine")(hfI:E.P.funcs[h.fi]?=some fnI)(hnameI:fnI.name ≠ "runtime.NumGoroutine")
  (hc:xa9 E.P h fnI fn=some pf) (hcalls:∀f,l8 E.P E.G f (E.call f)):l8 E.P E.G f (Ca0 E pf):=by
 intro args blks r out he W ρ F w args' hH hlen hargs hG;unfold xa9 at hc;cases hb:fn.body with
 |none=>simp[hb] at hc
 |some c =>
 cases hbI:fnI.body with
 |none=>simp[hb,hbI] at hc
 |some cI =>
 simp only[hb,hbI] at hc
 split at hc
 case isFalse=>cases hc
 rename_i hres;injection hc with hc;subst hc;refine⟨⟨fn,hf,by simp[hb],hname⟩,?_⟩
 unfold Ca0 at he;obtain⟨hns,he⟩:=DT.run_guard_some he;rw[Qas,z6] at hns;obtain⟨hns,hle⟩:=hns;have hle:args.length<=fn.ntmps:=Qae hle;rw[z6,K6,z6] at he;obtain⟨⟨x,s1⟩,h1,h2⟩:=DT.run_bind_some he
 simp only at h2 h1
 refine (callsIn_wide (n:=2)).1 (callsIn_of_wp_marks hf hb trivial ?_);have hmb:=Te0 hns;have hI:Of8 E.P W fn.ntmps ρ blks F w ⟨args++List.replicate (fn.ntmps-args.length) (.v (.tuple #[])),blks⟩ { tmps:=args'.toArray++Array.replicate (fn.ntmps-args'.toArray.size) undef,defers:=[] } w:=by
  refine⟨⟨ρ,F,W,[],⟨λ_ h=>h,.refl,by rw[hmb];exact hH,⟨λid b hb hs=>(by rw[gd0 hns id b hb] at hs;cases hs),λid id' b b' hb hb' hs=>(by rw[gd0 hns id b hb] at hs;cases hs)⟩,λk hk=>hk.elim,λ_ _ _ _ _ hk=>hk.elim,rfl,Pc8⟩,⟨by simp[hlen],λi y y' hy hy'=>?_⟩,?_⟩,λt ht=>by simp at ht,trivial⟩
  ·simp only at hy hy'
   rw[Qbu] at hy';have hy':(args'.toArray++Array.replicate (fn.ntmps-args'.toArray.size) undef)[i]?=some y':=by rw[<- Qby];exact hy'
   rcases Qaq i args.length with hi|hi
   ·rw[Qbb hi] at hy;rw[Qdb (by simpa [<- hlen] using hi)] at hy'
    exact .w (by rw[hmb];exact hargs i y y' hy (by simpa using hy'))
   ·rw[Qba hi] at hy;rw[Array.getElem?_append_right (by simpa [<- hlen] using hi)] at hy'
    rw[Qbt] at hy;rw[Array.getElem?_replicate] at hy'
    split at hy
    ·split at hy'
     ·injection hy with hy;injection hy' with hy'
      subst hy hy';exact .w (.ofv _)
     ·cases hy'
    ·cases hy
  ·simp only[Array.size_append,Qfd,List.size_toArray];omega
 have hfin : ∀ (ac' : Act) (w' : World), Of8 E.P W fn.ntmps ρ blks F w s1 ac' w' → (match Hb0 (Hb5 (s5 (na6 s1.H) s1.a) (A2 s1.H)) (fn.results.toList.map (Gd6 E.P)) with
    |some l=>.guard (De3 (J6 s1.H blks.length)) (Cc5 blks.length (A2 s1.H) (dc2 l))
    |none=>.fail:DT (b7×List c7)).run=some (r,out)->LeavesInM Fence.wide 2 E.P fn ac'.tmps (λe w'=>∃r',e=.returned r'/\U3 W ρ blks F w r out r' w') ac'.defers .returning w':=λac' w' hI' hr=>by
  obtain⟨⟨ρ1,F1,W1,up,hI2⟩,_,_⟩:=hI';have hup:up=[]:=hI2.core.jot;subst hup;refine gd1 _ _ hI2.core λw'' hC ht=>?_
  cases hm:Hb0 (Hb5 (s5 (na6 s1.H) s1.a) (A2 s1.H)) (fn.results.toList.map (Gd6 E.P)) with
  |none=>rw[hm] at hr;cases hr
  |some l =>
  rw[hm] at hr;obtain⟨hfirst,hr⟩:=DT.run_guard_some hr;have hI3:I2 E.P W Of7 nf8 fn.ntmps ρ blks F w s1 { ac' with defers:=[] } w'' ρ1 F1 W1 []:=⟨hC,hI2.vals.tr ht,hI2.size⟩
  have hA:=hI3.arel;have hla:J6 s1.a fn.ntmps=s1.a:=by
   have:=hI2.vals.1
   rw[Qbu,Array.length_toList,hI2.size] at this;rw[J7,<- this,List.take_length]
  rw[hla] at hA;obtain⟨v,k1,k2⟩:=Id1 hC.hrel hA hres hm;have hadv:Adv W ρ blks F w ρ1 (A2 s1.H) F1 w'':=by
   refine⟨hC.adv.ext,λid b hid=>?_,hC.adv.more,hC.adv.new,λid b' hb' hn=>?_⟩
   ·obtain⟨b',g1,g2,g3,g4⟩:=hC.adv.heap id b hid;have hlt:=(Qab.1 hid).1;have hs:I4 b'=false:=gd0 hfirst id b' (by rw[J7,Qap,if_pos hlt];exact g1)
    exact⟨b',ga5 g1 hs,g2,g3,g4⟩
   ·rw[pd3,Qbe] at hb';cases hq:s1.H[id]? with
    |none=>rw[hq] at hb';cases hb'
    |some q =>
     rw[hq] at hb';injection hb' with hb';have hg:b'.g=q.g:=by
      rw[<- hb'];unfold af9;cases I4 q<;>rfl
     exact hC.adv.fresh id q hq λb hb=>by rw[<- hg];exact hn b hb
  refine⟨v,k1,v,rfl,?_⟩;simp only[Cc5] at hr;cases ht:Gd1 blks.length (A2 s1.H) (List.range blks.length) (dc2 l) with
  |mk z roots =>
  simp only[ht] at hr;cases hb2:eb4 blks.length (A2 s1.H) 0 roots with
  |none=>simp[hb2] at hr
  |some H2 =>
  simp only[hb2] at hr;have hr':some (z,H2)=some (r,out):=hr;injection hr' with hr';injection hr' with e1 e2;subst e1 e2
  obtain⟨m1,_,m3⟩:=Hd8 (TOk.start _) ht;exact⟨_,F1,dd7 m1 hb2 hadv,(Oc8 m1 hC.hrel hb2).more hC.sub,me5 hb2 m3 k2⟩
 refine Zc0 FW.wide hG hcalls (λ_ _ _ _ h=>h) (λrd hrd=>by cases hrd) hmx (Ee1 hmx hG hcalls hfI hbI hnameI) c 0 _ x s1 h1 _ w _ hI λac' w' hI'=>?_
 cases x with
 |normal=>exact hfin ac' w' hI' h2
 |ret=>exact hfin ac' w' hI' h2
 |exit id=>cases h2
end
theorem l8.body2{E:Env}{P:Program}{f:FuncId}{h:Fc3}{fn fnI:Func}{pf:PFn}(hP:E.P=P)(hm:P.follows .mixedOrders=true)(hf:P.funcs[f]?=some fn)(hn:fn.name ≠ "runtime.NumGoroutine")(hfI:P.funcs[h.fi]?=some fnI)(hnI:fnI.name ≠ "runtime.NumGoroutine")
  (hc:xa9 P h fnI fn=some pf) (hcalls:∀g,l8 E.P E.G g (E.call g)):l8 E.P E.G f (Ca0 E pf):=by
 subst hP;exact nf9 hm hf hn hfI hnI hc hcalls
inductive PS2 where
 |pc (c:PC)
 |seq (a b:PS2)
 |cond (c:Arg) (x y:PS2)
 |block (id:Nat) (c:PS2)
 |sum (S:St->DT (l4×St))
 |inner (f:Nat) (x:Arg) (nIn:Nat) (c:PS2)
def pd8(E:Env)(k:Nat)(c:PS2):St->DT (l4×St) :=
 PS2.rec (motive:=λ_=>St->DT (l4×St))
  (λc=>M2 E k c)
  (λ_ _ x y s=>(x s).bind λr=>l4.rec (motive:=λ_=>DT (l4×St)) (y r.2) (λid=>.ret (.exit id,r.2)) (.ret (.ret,r.2)) r.1)
  (λc _ _ x y s=>match c9 E s.a c with
   |.v (.bool b)=>.ite b (x s) (y s)
   |_=>.fail)
  (λid _ x s=>(x s).bind λr=>l4.rec (motive:=λ_=>DT (l4×St)) (.ret (.normal,r.2))
   (λid'=>Bool.rec (.ret (.exit id',r.2)) (.ret (.normal,r.2)) (Nat.beq id' id)) (.ret (.ret,r.2)) r.1)
  (λS=>S)
  (λf x nIn _ c s=>match c9 E s.a x with
   |.fn f' caps=>match Nat.beq f f'&&(Nat.ble (len caps+1) nIn&&!Nat.ble bfB f) with
    | true => (c (oc5 caps nIn s)).bind fun r =>
      l4.rec (motive:=λ_=>DT (l4×St)) (Cc3 (hdA (s9 r.2.a nIn)) ⟨s9 r.2.a (nIn+1),r.2.H⟩) (λ_=>.fail) (Cc3 (hdA (s9 r.2.a nIn)) ⟨s9 r.2.a (nIn+1),r.2.H⟩) r.1
    |false=>.fail
   |_=>.fail) c
inductive ta5 (E:Env) (k:Nat):PS2->PC->Prop
 |pc (c:PC):ta5 E k (.pc c) c
 |seq {a b:PS2} {a' b':PC} (h:ta5 E k a a') (h':ta5 E k b b'):ta5 E k (.seq a b) (.seq a' b')
 |cond (c:Arg) {a b:PS2} {a' b':PC} (h:ta5 E k a a') (h':ta5 E k b b'):ta5 E k (.cond c a b) (.cond c a' b')
 |block (id:Nat) {a:PS2} {a':PC} (h:ta5 E k a a'):ta5 E k (.block id a) (.block id a')
 |sum {S:St->DT (l4×St)} {c:PC} (h:∀s,fa2 (S s) (M2 E k c s)):ta5 E k (.sum S) c
 |inner (f:Nat) (x:Arg) (nIn:Nat) {a:PS2} {a':PC} (h:ta5 E k a a'):ta5 E k (.inner f x nIn a) (.inner f x nIn a')
def Te1 (E : Env) (f : Nat) (x : Arg) (nIn : Nat) (c : St → DT (l4 × St)) (s : St) : DT (l4 × St) := match c9 E s.a x with
   |.fn f' caps=>match Nat.beq f f'&&(Nat.ble (len caps+1) nIn&&!Nat.ble bfB f) with
    | true => (c (oc5 caps nIn s)).bind fun r =>
      l4.rec (motive:=λ_=>DT (l4×St)) (Cc3 (hdA (s9 r.2.a nIn)) ⟨s9 r.2.a (nIn+1),r.2.H⟩) (λ_=>.fail) (Cc3 (hdA (s9 r.2.a nIn)) ⟨s9 r.2.a (nIn+1),r.2.H⟩) r.1
    |false=>.fail
   |_=>.fail
theorem pe3{E:Env}{f:Nat}{x:Arg}{nIn:Nat}{c c':St->DT (l4×St)}(h:∀s,fa2 (c s) (c' s))(s:St):fa2 (Te1 E f x nIn c s) (Te1 E f x nIn c' s):=by
 unfold Te1;cases c9 E s.a x with
 |fn f' caps =>
  simp only
  cases Nat.beq f f'&&(Nat.ble (len caps+1) nIn&&!Nat.ble bfB f) with
  |true=>exact (h _).bind λr=>.refl _
  |false=>exact .fail _
 |_=>exact .fail _
theorem ta5.le{E:Env}{k:Nat}{a:PS2}{c:PC}(h:ta5 E k a c):∀s,fa2 (pd8 E k a s) (M2 E k c s):=by
 induction h with
 |pc c=>exact λs=>.refl _
 |seq h h' ih ih' =>
  intro s;refine (ih s).bind λr=>?_
  rcases r with⟨x,s'⟩
  cases x with
  |normal=>exact ih' s'
  |exit id=>exact .refl _
  |ret=>exact .refl _
 |cond c h h' ih ih' =>
  intro s;show fa2 (match c9 E s.a c with | .v (.bool b)=>_ | _=>_) (match c9 E s.a c with | .v (.bool b)=>_ | _=>_)
  split
  ·exact .ite (ih s) (ih' s)
  ·exact .fail _
 |block id h ih=>exact λs=>(ih s).bind λr=>.refl _
 |sum h=>exact h
 |inner f x nIn h ih =>
  intro s;exact pe3 (E:=E) (f:=f) (x:=x) (nIn:=nIn) ih s
def zf7(E:Env)(fn:PFn)(body:PS2)(args:List b7)(blks:List c7):DT (b7×List c7) :=
 .guard (Bool.and (De3 blks) (Nat.ble (len args) fn.ntmps)) ((pd8 E (len blks) body ⟨app args (List.replicate (fn.ntmps-len args) (.v (.tuple #[]))),blks⟩).bind λr =>
  match r.1 with
  |.exit _=>.fail
  |_=>match Hb0 (Hb5 (s5 (na6 r.2.H) r.2.a) (A2 r.2.H)) fn.res with
   |some l=>.guard (De3 (J6 r.2.H (len blks))) (Cc5 (len blks) (A2 r.2.H) (dc2 l))
   |none=>.fail)
theorem Ee2{E:Env}{fn:PFn}{body:PS2}{args:List b7}{blks:List c7}(h:ta5 E (len blks) body fn.body):fa2 (zf7 E fn body args blks) (Ca0 E fn args blks) :=
 fa2.ite (fa2.bind (h.le _) λ_=>.refl _) (.refl _)
@[reducible] def Ee3(k:Nat)(keep:List Nat)(s:St):DT St:=tidyM k ⟨X6 keep s.a 0,s.H⟩
theorem Te2(E:Env)(k:Nat)(keep:List Nat)(c:PC)(s:St):M2 E k (.loopM keep c) s=Ac2 (Ee3 k keep) (M2 E k c) E.N s:=rfl
theorem Of9{E:Env}(hm:E.P.follows .mixedOrders=true)(hcalls:∀f,l8 E.P E.G f (E.call f)):Qe0 E:=by
 intro W ρ0 H0 F0 w0 hG0 id ops dsts asq l ps hc s x s' he ac w Q hI hQ;rw[<- hc] at he;obtain⟨hd,hr⟩:=hI;have hlen:H0.length<=s.H.length:=by
  obtain⟨ρ,F,hA,_⟩:=hr
  rcases Qaq s.H.length H0.length with h|h
  ·obtain⟨b',hb',_⟩:=hA.heap s.H.length _ (Qaa h)
   simp_all
  ·exact h
 exact wpIn_wide.1 (bf1 (nn:=0) FW.wide hm hcalls hG0 (DS:=λ_=>True) (tm:=ac.tmps) (ds:=ac.defers) (λ_ _ _ _=>trivial) hlen he ⟨rfl,rfl,λ_ h=>absurd trivial h,hr⟩ λac' w' hM=>hQ ac' w' ⟨hM.defers.trans hd,hM.rel⟩)
def got(x:Option PFn):PFn:=Option.rec (motive:=λ_=>PFn) ⟨0,[],.skip⟩ (λy=>y) x
theorem Sb1{x:Option PFn}(h:Option.isSome x=true):x=some (got x):=by cases x with
 |none=>cases h
 |some y=>rfl
def gd2(P:Program)(f:FuncId)(R:Env->Sum):Prop:=∀{E:Env},E.P=P->(∀g,l8 E.P E.G g (E.call g))->l8 E.P E.G f (R E)
theorem Eg1{P:Program}{f:FuncId}{fn:Func}{pf:PFn}(hm:P.follows .mixedOrders=true)(hf:P.funcs[f]?=some fn)(hn:decide (fn.name ≠ "runtime.NumGoroutine")=true)(hc:Nc9 P fn=some pf):gd2 P f λE=>ba9 E pf :=
 λhP hcalls=>by
  subst hP;exact tf5 hf (of_decide_eq_true hn) hc hcalls (Of9 hm hcalls)
theorem Uc8{P:Program}{f:FuncId}{h:Fc3}{fn fnI:Func}{pf:PFn}(hm:P.follows .mixedOrders=true)(hf:P.funcs[f]?=some fn)(hn:decide (fn.name ≠ "runtime.NumGoroutine")=true)(hfI:P.funcs[h.fi]?=some fnI)(hnI:decide (fnI.name ≠ "runtime.NumGoroutine")=true)
  (hc:xa9 P h fnI fn=some pf):gd2 P f λE=>Ca0 E pf :=
 λhP hcalls=>l8.body2 hP hm hf (of_decide_eq_true hn) hfI (of_decide_eq_true hnI) hc hcalls
end Go.Ev
