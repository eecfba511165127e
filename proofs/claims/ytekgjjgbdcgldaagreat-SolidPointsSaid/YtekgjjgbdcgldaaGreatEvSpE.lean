/- Own work. -/
import Derived.Test.YtekgjjgbdcgldaaGreatEvSp5
import Derived.MapKept
import GoSem.Instr.MapUpdate
import Derived.OrdersIn
set_option linter.all false
noncomputable section
def Qea:=@List.getElem?_eq_some_iff
def Qeb:=@Bool.and_eq_true
def Qec:=@List.getElem?_eq_getElem
def Qed:=@Option.some.inj
def Qee:=@Nat.le_refl
def Qef:=@List.getElem?_append_left
def Qeg:=@List.getElem?_map
def Qeh:=@Array.getElem?_eq_some_iff
def Qei:=@Nat.eq_of_beq_eq_true
def Qej:=@Array.getElem?_eq_getElem
def Qek:=@List.length_append
def Qel:=@List.getElem?_set_ne
def Qem:=@List.getElem?_append_right
def Qen:=@List.all_eq_true
def Qeo:=@List.getElem?_take
def Qep:=@Nat.lt_or_ge
def Qeq:=@Option.map_eq_some_iff
def Qer:=@List.getElem?_eq_none
def Qes:=@List.getElem?_drop
def Qet:=@List.mem_filterMap
def Qeu:=@Array.toList_setIfInBounds
def Qev:=@List.getElem?_set
def Qew:=@Classical.byContradiction
def Qex:=@Nat.blt_eq
def Qey:=@Nat.zero_add
def Qez:=@Nat.le_of_ble_eq_true
def Qeaa:=@List.mem_append_right
def Qeab:=@List.map_cons
namespace Go.Ev
open Go
section
variable{WB K:Nat->Prop}{J:List Value->World->Prop}{ρ ρ0:Rho}{H H0 H':List b8}{F F0:Fz}{w w0 w':World}{W':Nat->Prop}{up:List Value}{E:Env}{a:List b7}{ac:Act}{x:b7}{o:Oper}
variable{ds:List Deferred}{n:Nat}(hC:C2 E.P WB K J ρ0 H0 F0 w0 H ds w ρ F W' up)(hJ:yc4 K J)(hv:VR ρ H F w a (ac.tmps.toList++up))(hn:ac.tmps.size=n)(hG:GOk E F w)
theorem uf8{x:b7}{x':Value}(h:XC ρ H F w x x'):ja0 ρ (q9 H) F w (oa7 H x) x':=by
 cases h with
 |n h =>
  unfold oa7;split
  ·split
   ·rename_i b hb;cases G8 b with
    |true=>exact .unk _
    |false=>exact h
   ·exact .unk _
  ·exact h
 |box id c g b hb hd he =>
  unfold oa7;simp only[C5,hb,Ab8 he];exact .unk _
 |map id c g b t hb hd he =>
  unfold oa7;simp only[C5,hb,Ab9 he];exact .unk _
include hC hJ hv hn hG
omit hJ in
theorem Ye9 {t : TypeId} {p : Nat} (ho : o.op = .load t (.tmp p)) (hp : Nat.blt p n = true) (hu : E.P.underlying t ≠ none) (he : (Ub3 E a H (.bload (szT E.P t) (agT E.P t) p)).run = some (x, H')) :
  j9 E.P o ac w (Qb1 E.P WB K J ρ0 H0 F0 w0 ρ H F w up ds x H'):=by
 have hyr:=Ib7 hv hn hG (.tmp p) hp;simp only[Ub3] at he;cases hs:Cc3 0 H (d7 E a (.t p)) with
 |none=>rw[hs] at he;cases he
 |some q =>
 obtain⟨id,c,g,b⟩:=q;rw[hs] at he
 simp only at he
 obtain⟨h1,h2,h3,h4,h5⟩:=Nc8 hs hyr;cases hle:Nat.ble (c+szT E.P t) (len (l9 b.elems 0)) with
 |false=>rw[hle] at he;cases he
 |true =>
 rw[hle] at he;obtain⟨z,hz1,hz2⟩:=mb1 he;obtain⟨e0,rfl⟩:x=z/\H=H':=by injection hz2 with e1 e2;exact⟨e1,e2.symm⟩
 rw[e0]
 clear e0 hz2
 obtain⟨_,_,_,_,hcont⟩:=hC.srel.has id b h2 (Ab8 h4) h3
 rcases hcont with⟨_,row,vs,tt,m1,m2,m3,m4⟩|⟨t',K',El,fl,es,clk,m1,_⟩
 case inr=>exact (qc7 h4 m1).elim
 have hrow:l9 b.elems 0=row:=by rw[m1];rfl
 rw[hrow] at hle hz1;rw[o0] at hle;have hle:=Qez hle;have hti:∃i,E.P.info? t=some i/\i.size=szT E.P t:=by
  cases hd:E.P.underlying t with
  |none=>exact absurd hd hu
  |some d=>exact zb8 hd
 obtain⟨ti,hi1,hi2⟩:=hti;generalize hsz:szT E.P t=k at *
 have hcell:∀j,j<k->w.cell? ⟨(ρ id).blk,c+j,none⟩=some (vs.getD (c+j) undef):=λj hj=>by
  have hlt:c+j<vs.size:=by omega
  simp[World.cell?,m2,hlt]
 have hrel:∀j,j<k->∀y,row[c+j]?=some y->XC ρ H F w y (vs.getD (c+j) undef):=λj hj y hy=>by
  have hlt:c+j<vs.size:=by omega
  exact (m4 (c+j) y _ hy (by simp[hlt])).2
 have hvals:∀(j:Nat) v,((List.range k).map λj=>vs.getD (c+j) undef)[j]?=some v->w.cell? (Addr.add ⟨(ρ id).blk,c,none⟩ j)=some v:=λj v hj=>by
  obtain⟨hj1,hj2⟩:=ab7 hj;rw[Y3 rfl];rw[<- hj2];exact hcell j hj1
 have hev:ac.eval (.tmp p)=.pointer (some ⟨(ρ id).blk,c,none⟩):=h5;cases hag:agT E.P t with
 |true =>
  rw[hag] at hz1;have hz1:some (b7.agg (p5 (oa7 H) (N8 (j7 row c) k)))=some z:=hz1;injection hz1 with hz1;subst hz1;have hlc:(Go.loadCells ⟨(ρ id).blk,c,none⟩ k).run E.P w=.ok ((List.range k).map λj=>vs.getD (c+j) undef).toArray w:=by
   have:=run_loadCells_list (P:=E.P) w ⟨(ρ id).blk,c,none⟩ ((List.range k).map λj=>vs.getD (c+j) undef) hvals
   simpa using this
  refine .value (x':=.agg ((List.range k).map λj=>vs.getD (c+j) undef).toArray) (w':=w) ?_ ⟨ρ,F,W',hC,λ_ _ h=>h,.w (.val (.agg _ _ ?_ λi y y' hy hy'=>?_))⟩
  ·simp[execOp,ho,hev,Instr.loadAt,Instr.sureAddr,loadVar,yb6 hag,sizeOf,typeInfo,hi1,hi2,hlc]
  ·rw[p6,O0,O1];simp;omega
  ·rw[p6,O0,O1,Qeg] at hy;have hy':((List.range k).map λj=>vs.getD (c+j) undef)[i]?=some y':=by simpa using hy'
   obtain⟨hj1,hj2⟩:=ab7 hy';rw[Qeo,if_pos hj1,Qes] at hy;cases hq:row[c+i]? with
   |none=>rw[hq] at hy;cases hy
   |some q =>
    rw[hq] at hy;injection hy with hy;subst hy;rw[<- hj2];exact uf8 (hrel i hj1 q hq)
 |false =>
  rw[hag] at hz1;have hz1:(match N8 (j7 row c) k with | [x]=>some x | _=>none:Option b7)=some z:=hz1
  rw[O0,O1] at hz1;have hk1:k=1/\row[c]?=some z:=by
   have hl:((row.drop c).take k).length=k:=by simp;omega
   split at hz1
   ·rename_i y hy;injection hz1 with hz1;subst hz1;rw[hy] at hl;have hk:k=1:=by simpa using hl.symm
    refine⟨hk,?_⟩;have h0:((row.drop c).take k)[0]?=some y:=by rw[hy];rfl
    rw[Qeo,if_pos (by omega),Qes] at h0
    simpa using h0
   ·cases hz1
  obtain⟨hk,hz⟩:=hk1;subst hk;have hc0:=hcell 0 (by omega)
  rw[Nat.add_zero] at hc0;refine .value (x':=vs.getD c undef) (w':=w) ?_ ⟨ρ,F,W',hC,λ_ _ h=>h,.c ?_⟩
  ·simp[execOp,ho,hev,Instr.loadAt,Instr.sureAddr,loadVar,ib7 hag hu,hc0]
  ·have:=hrel 0 (by omega) z (by rw[Nat.add_zero];exact hz)
   rwa [Nat.add_zero] at this
omit hJ in
theorem uf9 {s : TypeId} {p f : Nat} {fs : Array Field} {fd : Field} (ho : o.op = .fieldAddr s (.tmp p) f) (hp : Nat.blt p n = true) (hs' : E.P.underlying s = some (.struct fs)) (hf : fs[f]? = some fd) (hz : szT E.P fd.type ≠ 0)
  (he:(Ub3 E a H (.bfld fd.offset p)).run=some (x,H')):j9 E.P o ac w (Qb1 E.P WB K J ρ0 H0 F0 w0 ρ H F w up ds x H'):=by
 have hyr:=Ib7 hv hn hG (.tmp p) hp;simp only[Ub3] at he;cases hs:Cc3 0 H (d7 E a (.t p)) with
 |none=>rw[hs] at he;cases he
 |some q =>
 obtain⟨id,c,g,b⟩:=q;rw[hs] at he;have he':some (b7.ptr id 0 (c+fd.offset) g,H)=some (x,H'):=he;obtain⟨rfl,rfl⟩:x=b7.ptr id 0 (c+fd.offset) g/\H=H':=by injection he' with he';injection he' with e1 e2;exact⟨e1.symm,e2⟩
 obtain⟨h1,h2,h3,h4,h5⟩:=Nc8 hs hyr;obtain⟨ti,hi,hi0,hi1⟩:=dd3 hz;have hev:ac.eval (.tmp p)=.pointer (some ⟨(ρ id).blk,c,none⟩):=h5;refine .value (x':=.pointer (some (Addr.add ⟨(ρ id).blk,c,none⟩ fd.offset))) (w':=w) (by simp[execOp,ho,hev,Instr.fieldAt,Instr.sureAddr,run_underlying hs',hf,fieldPlace,sizeOf,typeInfo,hi,hi1]) ⟨ρ,F,W',hC,λ_ _ h=>h,.c ?_⟩
 rw[Y3 rfl];exact .box id (c+fd.offset) g b h2 h3 h4
omit hJ in
theorem Ze0 {p : Nat} (ho : o.op = .move (.tmp p) ∨ o.op = .assign (.tmp p)) (hp : Nat.blt p n = true)
  (he:(Ub3 E a H (.bmv p)).run=some (x,H')):j9 E.P o ac w (Qb1 E.P WB K J ρ0 H0 F0 w0 ρ H F w up ds x H'):=by
 have hyr:=Ib7 hv hn hG (.tmp p) hp;have he':some (d7 E a (.t p),H)=some (x,H'):=he;injection he' with he';injection he' with e1 e2;subst e1 e2;refine .value (x':=ac.eval (.tmp p)) (w':=w) (by rcases ho with ho | ho<;>simp[execOp,ho]) ⟨ρ,F,W',hC,λ_ _ h=>h,hyr⟩
theorem Me9 {t : TypeId} {p : Nat} {y : Operand} (ho : o.op = .store t (.tmp p) y) (hp : Nat.blt p n = true) (hy : ltO n y = true) (h0 : szT E.P t ≠ 0) (he : (Ub3 E a H (.bstore (szT E.P t) p (j8 y))).run = some (x, H')) :
  j9 E.P o ac w (Qb1 E.P WB K J ρ0 H0 F0 w0 ρ H F w up ds x H'):=by
 have hpr:=Ib7 hv hn hG (.tmp p) hp;have hyr:=Ib7 hv hn hG y hy;simp only[Ub3] at he;cases hs:Cc3 0 H (d7 E a (.t p)) with
 |none=>rw[hs] at he;cases he
 |some q =>
 obtain⟨id,c,g,b⟩:=q;rw[hs] at he
 simp only at he
 obtain⟨h1,h2,h3,h4,h5⟩:=Nc8 hs hpr;generalize hcs:G7 (d7 E a (j8 y))=cs at *
 cases hcc:(Nat.ble (c+szT E.P t) (len (l9 b.elems 0))&&Nat.beq (len cs) (szT E.P t)&&(ib5 (d7 E a (j8 y))&&Bc9 Je1 cs)) with
 |false=>rw[hcc] at he;cases he
 |true =>
 rw[hcc] at he;have he':some (b7.v (.tuple #[]),setAt H id { b with elems:=[ea5 (l9 b.elems 0) c cs] })=some (x,H'):=he
 injection he' with he';injection he' with e1 e2;subst e1 e2
 simp only[Qeb,o0] at hcc;obtain⟨⟨hle,hlen⟩,hpo,hbo⟩:=hcc;have hle:=Qez hle;have hlen:=Qei hlen;rw[<- hcs] at hbo;obtain⟨k1,k2⟩:=ee0 hyr hpo hbo;rw[hcs] at k1 k2;obtain⟨hWB,hnW,hnF,hlt,hcont⟩:=hC.srel.has id b h2 (Ab8 h4) h3
 rcases hcont with⟨_,row,vs,tt,m1,m2,m3,m4⟩|⟨t',K',El,fl,es,clk,m1,_⟩
 case inr=>exact (qc7 h4 m1).elim
 have hrow:l9 b.elems 0=row:=by rw[m1];rfl
 rw[hrow] at hle ⊢;generalize hys:(ac.eval y).cells.toList=ys at *
 have hl2:ys.length=cs.length:=k1.symm;have hone:∀v∈ys,v.oneCell'=true:=λv hv'=>by
  obtain⟨j,hj,rfl⟩:=List.mem_iff_getElem.1 hv';have hj':j<cs.length:=by omega
  exact (k2 j _ _ (Qec hj') (Qec hj)).1
 have hfits:c+ys.length<=vs.size:=by omega
 have hstore:=run_storeCells_at (P:=E.P) (ρ id).blk c tt ys 0 vs w m2 (by simpa using hfits) hone
 simp only[Nat.add_zero] at hstore;obtain⟨ti,hi1,hi2⟩:=Zd8 h0;have hsz0:(ac.eval y).cells.size=ti.size:=by
  have:(ac.eval y).cells.toList.length=ys.length:=by rw[hys]
  rw[Array.length_toList] at this;omega
 have hev:ac.eval (.tmp p)=.pointer (some ⟨(ρ id).blk,c,none⟩):=h5;have hid:=(Qea.1 h2).1;rw[F5];refine .skip (w':=w.setRow (ρ id).blk (vs.toList.take c++ys++vs.toList.drop (c+ys.length)).toArray) ?_ ?_
 ·simp[execOp,ho,hev,Instr.storeAt,Instr.sureAddr,storeVar,sizeOf,typeInfo,hi1,hsz0,hys,hstore]
 ·have hheap:=setRow_heap w (ρ id).blk vs (vs.toList.take c++ys++vs.toList.drop (c+ys.length)).toArray tt (0,0) m2;have hsize:((vs.toList.take c++ys++vs.toList.drop (c+ys.length)).toArray).size=vs.size:=by simp;omega
  have hK:=λk (hk:K k)=>hC.kept k hk
  have hnK:∀k,K k->k≠(ρ id).blk:=λk hk e=>hC.far id b h2 (Ab8 h4) h3 (e ▸ hk)
  obtain⟨c1,c2⟩:=hC.change (w':=w.setRow (ρ id).blk (vs.toList.take c++ys++vs.toList.drop (c+ys.length)).toArray) (H':=H.set id { b with elems:=[ea5 row c cs] }) (up':=up) (ρ id).blk hWB hnW hnF rfl rfl rfl (Qee _) (by simp[World.setRow]) (λj hj=>setRow_other w _ j _ hj)
   (λcc t' fr hcc=>by rw[m2] at hcc;cases hcc;exact⟨_,hheap,hsize⟩) (by simp)
   (λid' b' hb'=>by
    by_cases e:id=id'
    ·subst e;obtain rfl:b'=b:=Qed (hb'.symm.trans h2);exact⟨{ b' with elems:=[ea5 row c cs] },by simp[hid],rfl,rfl,rfl,rfl,by rw[m1];simp,λhs0=>by rw[Ab8 h4] at hs0;cases hs0⟩
    ·exact⟨b',by rw[Qel e];exact hb',rfl,rfl,rfl,rfl,Qee _,λ_=>rfl⟩)
   (λid' b' hb' hs' hd' hne=>by
    have e:id≠id':=λe=>hne (by rw[e])
    rw[Qel e];exact hb')
   (λhx id' b' hb' hs' hd' hblk=>by
    have e:id=id':=Qew λhne=>by
     rw[Qel hne] at hb';exact hC.srel.apart id id' b b' h2 hb' (Ab8 h4) hs' h3 hd' hne hblk.symm
    subst e
    have:b'={ b with elems:=[ea5 row c cs] }:=by simpa [hid] using hb'.symm
    subst this;have hfit:c+cs.length<=row.length:=by omega
    refine .inl ⟨h4,_,_,tt,rfl,hheap,by rw[mb3 hfit,hsize];exact m3,λj u u' hu hu'=>?_⟩
    rw[Ub8 hfits] at hu'
    rcases wc8 hfit hu with⟨g1,g2,g3⟩|⟨g1,g3⟩
    ·rw[if_pos (by omega)] at hu'
     obtain⟨q1,q2⟩:=k2 (j-c) u u' g3 hu';exact⟨q1,hx _ _ q2⟩
    ·rw[if_neg (by omega)] at hu'
     obtain⟨q1,q2⟩:=m4 j u u' g3 hu';exact⟨q1,hx _ _ q2⟩)
   (hJ up w _ (λk hk=>setRow_other w _ k _ (hnK k hk)) hC.jot)
   (λD _ hD e=>by rw[e,m2] at hD;cases hD)
  exact⟨ρ,F,W',c1,c2,.w (.ofv _)⟩
end
section
variable{P:Program}{w:World}
def Ze1(P:Program)(w:World)(em:Bool)(m:Nat)(t:TypeId)(l:List (Nat×CK)):Prop :=
 ∀v:Value,(agT P t=true->v=.agg v.cells)->(agT P t=false->v.cells=#[v])->(∀p∈l,Na9 v.cells p)->(Instr.checkKey em m t v).run P w=.ok () w
theorem Ze1.step {em : Bool} {m : Nat} {t : TypeId} {l : List (Nat × CK)} (h : Ze1 P w em m t l) (hf : sf6 P w 0 t l ∨ True) (hu : P.underlying t ≠ none) (hone : agT P t = false → l ≠ [] ∧ ∀ p ∈ l, p.1 = 0) {xs : Array Value} {off : Nat} (hl : ∀ p ∈ l, p.1 < szT P t) (hx : ∀ p ∈ l.map fun p => (off + p.1, p.2), Na9 xs p) :
  ∃a,(part t xs off).run P w=.ok a w/\(Instr.checkKey em m t a).run P w=.ok () w:=by
 have hx':∀p∈l,Na9 xs (off+p.1,p.2):=λp hp=>hx _ (List.mem_map.2 ⟨p,hp,rfl⟩)
 obtain⟨a,a1,a2,a4,a3⟩:=gd3 (w:=w) hu hone hl hx';refine⟨a,a1,h a a2 a4 λp hp=>?_⟩
 have:=hx' p hp;unfold Na9 at this ⊢;rw[a3 p hp];exact this
theorem bb2(em:Bool):∀(d:Nat) (t:TypeId) (l:List (Nat×CK)),ga6 P d t=some l->∀m,d<=m->Ze1 P w em m t l
 |0,_,_,h,_,_=>by cases h
 |d+1,t,l,h,0,hm=>by omega
 |d+1,t,l,h,m+1,hm=>by
  intro v hv1 hv2 hv3;unfold ga6 at h;cases hu:P.underlying t with
  |none=>simp[hu] at h
  |some u =>
  cases u with
  |int k =>
   simp only[hu] at h;injection h with h;subst h
   have hag:agT P t=false:=dd2 (by simp[hu]) (by simp[hu])
   obtain⟨n,e1⟩:=hv3 (0,.int k) (by simp)
   rw[hv2 hag] at e1;have e1':v=.int k n:=by simpa using e1
   subst e1';simp[Instr.checkKey,run_underlying hu]
  |bool =>
   simp only[hu] at h;injection h with h;subst h
   have hag:agT P t=false:=dd2 (by simp[hu]) (by simp[hu])
   obtain⟨n,e1⟩:=hv3 (0,.bool) (by simp)
   rw[hv2 hag] at e1;have e1':v=.bool n:=by simpa using e1
   subst e1';simp[Instr.checkKey,run_underlying hu]
  |struct fs =>
   simp only[hu] at h
   split at h
   ·cases h
   have hag:agT P t=true:=by simp[agT,hu]
   rw[hv1 hag];generalize v.cells=xs at *
   rw[Instr.checkKey];simp only[Sem.run_bind,run_underlying hu,Result.andThen_ok];rw[<- Array.forIn_toList]
   clear hu hv1 hv2 hag
   generalize fs.toList=fl at *
   induction fl generalizing l with
   |nil=>simp
   |cons f fl ih =>
    simp only[Qeab,wa3] at h
    split at h
    ·rename_i l1 l2 e1 e2;injection h with h;subst h
     split at e1
     ·cases e1
     rename_i hnm;obtain⟨l',g1,g2,g3⟩:=Ya5 e1;subst g3;have hfl:=Ib2 (w:=w) d f.type l' g1;obtain⟨a,p1,p2⟩:=(bb2 em d f.type l' g1 m (by omega)).step (w:=w) (.inr trivial) hfl.und hfl.one g2 (λp hp=>hv3 p (List.mem_append_left _ hp))
     simp only[List.forIn_cons,Sem.run_bind,hnm,ne_eq,not_false_eq_true,if_true,Result.andThen_ok,p1,p2,Sem.run_pure];exact ih l2 (λp hp=>hv3 p (Qeaa _ hp)) e2
    ·cases h
  |array n e =>
   simp only[hu] at h
   split at h
   case isFalse=>cases h
   rename_i hi;obtain⟨ti,hi⟩:=Option.isSome_iff_exists.1 hi;have hag:agT P t=true:=by simp[agT,hu]
   rw[hv1 hag];generalize v.cells=xs at *
   rw[Instr.checkKey];simp only[Sem.run_bind,run_underlying hu,Result.andThen_ok];simp only[Std.Legacy.Range.forIn_eq_forIn_range',Std.Legacy.Range.size,Nat.sub_zero,Nat.add_one_sub_one,Nat.div_one];rw[List.range_eq_range'] at h;have hsz:∀w:World,(sizeOf e).run P w=.ok (szT P e) w:=λw=>by simp[sizeOf,typeInfo,hi,szT]
   clear hu hv1 hv2 hag
   generalize List.range' 0 n=fl at *
   induction fl generalizing l with
   |nil=>simp
   |cons f fl ih =>
    simp only[Qeab,wa3] at h
    split at h
    ·rename_i l1 l2 e1 e2;injection h with h;subst h
     obtain⟨l',g1,g2,g3⟩:=Ya5 e1;subst g3;have hfl:=Ib2 (w:=w) d e l' g1;obtain⟨a,p1,p2⟩:=(bb2 em d e l' g1 m (by omega)).step (w:=w) (.inr trivial) hfl.und hfl.one g2 (λp hp=>hv3 p (List.mem_append_left _ hp))
     simp only[List.forIn_cons,Sem.run_bind,hsz,Result.andThen_ok,p1,p2,Sem.run_pure];exact ih l2 (λp hp=>hv3 p (Qeaa _ hp)) e2
    ·cases h
  |_=>simp[hu] at h
theorem ue4 {fl : List (Nat × CK)} (hk : ∀ p ∈ fl, (∃ i, p.2 = .int i) ∨ p.2 = .bool) {vs us : Array Value} (h1 : ∀ p ∈ fl, Na9 vs p) (h2 : ∀ p ∈ fl, Na9 us p) {cs ds : List b7} (hc : ∀ (i : Nat) v, vs[i]? = some v → hdA (j7 cs i) = .v v) (hd : ∀ (i : Nat) v, us[i]? = some v → hdA (j7 ds i) = .v v) :
  fl.all (rb9 vs us)=sc0 fl cs ds:=by
 induction fl with
 |nil=>rfl
 |cons p fl ih =>
  have e:sc0 (p::fl) cs ds=(Jf8 p.2 (hdA (j7 cs p.1)) (hdA (j7 ds p.1))&&sc0 fl cs ds):=rfl;rw[List.all_cons,ih (λq hq=>hk q (by simp[hq])) (λq hq=>h1 q (by simp[hq])) (λq hq=>h2 q (by simp[hq])),e]
  congr 1;have g1:=h1 p (by simp)
  have g2:=h2 p (by simp)
  obtain⟨n,kk⟩:=p;unfold Na9 at g1 g2;unfold rb9
  rcases hk (n,kk) (by simp) with⟨i,hi⟩|hi
  ·simp only at hi;subst hi
   obtain⟨m,hm⟩:=g1;obtain⟨m',hm'⟩:=g2
   simp only at hm hm' ⊢
   rw[hc n _ hm,hd n _ hm',hm,hm'];rfl
  ·simp only at hi;subst hi
   obtain⟨m,hm⟩:=g1;obtain⟨m',hm'⟩:=g2
   simp only at hm hm' ⊢
   rw[hc n _ hm,hd n _ hm',hm,hm'];rfl
theorem Ze2{ks:Array Value}{r:List b7}(i:Nat)(v:Value)(h:ks[i]?=some v):hdA (j7 (ks.toList.map .v++r) i)=.v v:=by
 rw[Dc3];have hlt:=(Qeh.1 h).1;rw[Qef (by simpa using hlt),Qeg]
 simp[h]
theorem Mf4{ks:Array Value}(i:Nat)(v:Value)(h:ks[i]?=some v):hdA (j7 (ks.toList.map .v) i)=.v v:=by
 have:=Ze2 (r:=[]) i v h
 rwa [List.append_nil] at this
section
variable{K:TypeId}{fl:List (Nat×CK)}{kl:Nat}(hag:agT P K=true)(hf:ga6 P 9 K=some fl)
include hag hf
theorem Mf5{ks us:Array Value}(h1:∀p∈fl,Na9 ks p)(h2:∀p∈fl,Na9 us p):(Op.equal K (.agg ks) (.agg us)).run P w=.ok (fl.all (rb9 ks us)) w :=
 (Ib2 (w:=w) (9+9991) K fl (xc1 hf 9991)).eq (.agg ks) (.agg us) (λ_=>rfl) (λ_=>rfl) (λh=>by rw[hag] at h;cases h) (λh=>by rw[hag] at h;cases h) h1 h2
theorem ee1 {ks : Array Value} (h1 : ∀ p ∈ fl, Na9 ks p) : ∀ (es : List MapEntry) (rows : List (List b7)) (i : Nat), es.length = rows.length → (∀ (j : Nat) r e, rows[j]? = some r → es[j]? = some e → kd1 fl kl r e) →
  ((Instr.findAsking K (.agg ks) es i).run P w=.ok none w/\Tc9 fl (ks.toList.map .v) rows=none/\∀new,Lb4 fl (ks.toList.map .v) new rows=rows++[new]) \/
  (∃j e r,(Instr.findAsking K (.agg ks) es i).run P w=.ok (some (i+j,e.val)) w/\es[j]?=some e/\rows[j]?=some r/\Tc9 fl (ks.toList.map .v) rows=some r/\(∀new,Lb4 fl (ks.toList.map .v) new rows=rows.set j new)/\∃us,e.key=.agg us/\fl.all (rb9 ks us)=true)
 |[],[],i,_,_=>.inl ⟨by simp[Instr.findAsking],rfl,λnew=>rfl⟩
 |[],r::rows,i,hl,_=>by simp at hl
 |e::es,[],i,hl,_=>by simp at hl
 |e::es,r::rows,i,hl,hr=>by
  obtain⟨us,v,g1,g2,g3,g4,g5⟩:=hr 0 r e rfl rfl;have hk:=Ab0 9 K fl hf;have he:=Mf5 (w:=w) hag hf h1 g5;have hq:fl.all (rb9 ks us)=sc0 fl (ks.toList.map .v) r:=by
   rw[g1];exact ue4 hk h1 g5 Mf4 Ze2
  have eR:Tc9 fl (ks.toList.map .v) (r::rows)=Bool.rec (motive:=λ_=>Option (List b7)) (Tc9 fl (ks.toList.map .v) rows) (some r) (sc0 fl (ks.toList.map .v) r):=rfl
  have eU:∀new,Lb4 fl (ks.toList.map .v) new (r::rows)=Bool.rec (motive:=λ_=>List (List b7)) (r::Lb4 fl (ks.toList.map .v) new rows) (new::rows) (sc0 fl (ks.toList.map .v) r):=λ_=>rfl
  cases hb:fl.all (rb9 ks us) with
  |true =>
   rw[hb] at he;rw[hb] at hq;refine .inr ⟨0,e,r,by simp[Instr.findAsking,g3,he],rfl,rfl,by rw[eR,<- hq],λnew=>by rw[eU,<- hq];rfl,us,g3,hb⟩
  |false =>
   rw[hb] at he;rw[hb] at hq
   rcases ee1 h1 es rows (i+1) (by simpa using hl) (λj r' e' hj hj'=>hr (j+1) r' e' (by simpa using hj) (by simpa using hj')) with⟨k1,k2,k3⟩|⟨j,e',r',k1,k2,k3,k4,k5,k6⟩
   ·refine .inl ⟨by simp[Instr.findAsking,g3,he,k1],by rw[eR,<- hq];exact k2,λnew=>by rw[eU,<- hq];show r::Lb4 _ _ _ _=_;rw[k3 new];rfl⟩
   ·refine .inr ⟨j+1,e',r',by simp[Instr.findAsking,g3,he,k1,Nat.add_assoc,Nat.add_comm 1 j],by simpa using k2,by simpa using k3,by rw[eR,<- hq];exact k4,λnew=>by rw[eU,<- hq];show r::Lb4 _ _ _ _=_;rw[k5 new];rfl,k6⟩
end
end
def ic6(fl:List (Nat×CK))(kl:Nat):Bool:=(List.range kl).all λi=>fl.any λp=>Nat.beq p.1 i
def Ze3(P:Program)(t:TypeId):Bool:=match P.info? t with
 |some i=>match i.zero with
  |some (.bool b)=>!b
  |_=>false
 |none=>false
theorem Hd1{fl:List (Nat×CK)}{kl i:Nat}(h:ic6 fl kl=true)(hi:i<kl):∃p∈fl,p.1=i:=by
 unfold ic6 at h;rw[Qen] at h
 have:=h i (List.mem_range.2 hi)
 rw[List.any_eq_true] at this;obtain⟨p,h1,h2⟩:=this;exact⟨p,h1,Qei h2⟩
section
variable{WB K:Nat->Prop}{J:List Value->World->Prop}{ρ ρ0:Rho}{H H0 H':List b8}{F F0:Fz}{w w0 w':World}{W':Nat->Prop}{up:List Value}{E:Env}{a:List b7}{ac:Act}{x:b7}{o:Oper}
theorem Ne0{x x':Value}(h:XW ρ H F w (.v x) x'):x'=x:=by
 cases h with
 |w h=>exact ka2 h
 |c h=>cases h with
  |n h=>exact ka2 (.val (.cell h))
theorem Ze4 {fl : List (Nat × CK)} {kl : Nat} {ks : List b7} {v : Value} (hcov : ic6 fl kl = true) (hk : ∀ p ∈ fl, (∃ i, p.2 = .int i) ∨ p.2 = .bool) (hx : XW ρ H F w (.agg ks) v) (hlen : ks.length = kl) (hok : qe3 fl ks = true) :
  ∃vs:Array Value,v=.agg vs/\ks=vs.toList.map .v/\vs.size=kl/\∀p∈fl,Na9 vs p:=by
 have hx':G3 ρ (q9 H) F w (.agg ks) v:=by
  cases hx with
  |w h=>exact h
  |c h=>cases h with
   |n h=>exact .val (.cell h)
 obtain⟨vs,rfl,hl,hr⟩:=Na8 hx';have h1:=gd5 hok;have k1:∀p∈fl,Na9 vs p:=λp hp=>(gc1 hl hr (hk p hp) (h1 p hp)).1
 refine⟨vs,rfl,List.ext_getElem (by simpa using hl) λi hi hi'=>?_,by rw[<- hl];exact hlen,k1⟩
 obtain⟨p,hp,rfl⟩:=Hd1 hcov (hlen ▸ hi);have h2:=h1 p hp;rw[Dc3,Qec hi] at h2;simp only[Option.getD_some] at h2;have hi2:p.1<vs.size:=hl ▸ hi;have hrel:=hr p.1 _ _ (Qec hi) (Qej hi2);have hv:∃u,ks[p.1]=.v u:=by
  rcases hk p hp with⟨q,e⟩|e<;>rw[e] at h2<;>revert h2<;>cases ks[p.1]<;>intro h2<;>first|exact⟨_,rfl⟩|cases h2
 obtain⟨u,hu⟩:=hv;rw[hu] at hrel ⊢
 have:=ka2 (.val (.cell hrel))
 simp[this]
theorem Ze5(m:Nat)(k:IntKind)(a:Int):Instr.sameBits m (.int k a) (.int k a)=true:=by cases m<;>simp[Instr.sameBits]
theorem Ne1(m:Nat)(a:Bool):Instr.sameBits m (.bool a) (.bool a)=true:=by cases m<;>simp[Instr.sameBits]
theorem Ne2 {fl : List (Nat × CK)} {kl m : Nat} {ks us : Array Value} (hcov : ic6 fl kl = true) (hk : ∀ p ∈ fl, (∃ i, p.2 = .int i) ∨ p.2 = .bool) (h1 : ks.size = kl) (h2 : us.size = kl) (a1 : ∀ p ∈ fl, Na9 ks p) (a2 : ∀ p ∈ fl, Na9 us p) (he : fl.all (rb9 ks us) = true) :
  Instr.sameBits (m+1) (.agg us) (.agg ks)=true:=by
 rw[Instr.sameBits];rw[Qeb];refine⟨by simp[h1,h2],?_⟩
 rw[Qen];intro q hq;obtain⟨i,hi,hq⟩:=List.mem_iff_getElem.1 hq;rw[List.getElem_zip] at hq;have hi':i<kl:=by rw[List.length_zip,Array.length_toList,Array.length_toList] at hi;omega
 obtain⟨p,hp,rfl⟩:=Hd1 hcov hi';have e:=Qen.1 he p hp;have b1:=a1 p hp;have b2:=a2 p hp;have g1:ks[p.1]?=some (ks[p.1]'(by omega)):=Qej _
 have g2:us[p.1]?=some (us[p.1]'(by omega)):=Qej _
 rw[<- hq];simp only[Array.getElem_toList];unfold Na9 at b1 b2;unfold rb9 at e
 rcases hk p hp with⟨k,hkk⟩|hkk
 ·rw[hkk] at b1 b2;obtain⟨n,b1⟩:=b1;obtain⟨n',b2⟩:=b2;rw[b1,b2] at e;have e:n=n':=by simpa using e
  subst e;rw[g1] at b1;rw[g2] at b2;rw[Qed b1,Qed b2];exact Ze5 _ _ _
 ·rw[hkk] at b1 b2;obtain⟨n,b1⟩:=b1;obtain⟨n',b2⟩:=b2;rw[b1,b2] at e;have e:n=n':=by simpa using e
  subst e;rw[g1] at b1;rw[g2] at b2;rw[Qed b1,Qed b2];exact Ne1 _ _
theorem ic7{k:Nat}{es:Array MapEntry}{clk:Nat}(P:Program)(h:w.heap[k]?=some (.map es clk)):(getObj k).run P w=.ok (.map es clk) w:=by simp[getObj,Sem.run,h]
theorem ic8{k:Nat}{es:Array MapEntry}{clk:Nat}(P:Program)(o:Obj)(h:w.heap[k]?=some (.map es clk)):(setObj k o).run P w=.ok () (w.putObj k o):=by simp[setObj,Sem.run,h,World.putObj]
theorem Uc8 {P : Program} {t : TypeId} {fl : List (Nat × CK)} {kl : Nat} (hag : agT P t = true) (hf : ga6 P 9 t = some fl) {ks : Array Value} (h1 : ∀ p ∈ fl, Na9 ks p) (es : List MapEntry) (rows : List (List b7)) (hl : es.length = rows.length) (hr : ∀ (j : Nat) r e, rows[j]? = some r → es[j]? = some e → kd1 fl kl r e) :
  ((Instr.findKey t (.agg ks) es).run P w=.ok none w/\Tc9 fl (ks.toList.map .v) rows=none/\∀new,Lb4 fl (ks.toList.map .v) new rows=rows++[new]) \/
  (∃j e r,(Instr.findKey t (.agg ks) es).run P w=.ok (some (j,e.val)) w/\es[j]?=some e/\rows[j]?=some r/\Tc9 fl (ks.toList.map .v) rows=some r/\(∀new,Lb4 fl (ks.toList.map .v) new rows=rows.set j new)/\∃us,e.key=.agg us/\fl.all (rb9 ks us)=true):=by
 have hu:∃d,P.underlying t=some d/\∀e es i,Instr.findNow d (.agg ks) (e::es) i=none:=by
  unfold agT at hag
  split at hag
  ·rename_i fs h;exact⟨_,h,λe es i=>rfl⟩
  ·rename_i n e h;exact⟨_,h,λe es i=>rfl⟩
  ·cases hag
 obtain⟨d,hd,hnow⟩:=hu
 have:=ee1 (w:=w) (kl:=kl) hag hf h1 es rows 0 hl hr
 have e0:(Instr.findKey t (.agg ks) es).run P w=(Instr.findAsking t (.agg ks) es 0).run P w:=by
  unfold Instr.findKey;simp only[Sem.run_bind,run_underlying hd,Result.andThen_ok];cases es with
  |nil=>simp[Instr.findNow,Instr.findAsking]
  |cons e es=>rw[hnow]
 rw[e0];simpa using this
section
variable{ds:List Deferred}{n:Nat}(hC:C2 E.P WB K J ρ0 H0 F0 w0 H ds w ρ F W' up)(hJ:yc4 K J)
include hC hJ
theorem Ze6 {t : TypeId} {kt el : TypeId} {fl : List (Nat × CK)} (ho : o.op = .makeMap t none) (hu : E.P.underlying t = some (.map kt el)) (hf : ga6 E.P 9 kt = some fl) (he : (Ub3 E a H (.mmake t)).run = some (x, H')) :
  j9 E.P o ac w (Qb1 E.P WB K J ρ0 H0 F0 w0 ρ H F w up ds x H'):=by
 have he':some (b7.ptr (len H) 0 0 0,Cc4 H (t+1) [])=some (x,H'):=he;injection he' with he';injection he' with e1 e2;subst e1 e2
 rw[o0];obtain⟨c1,c2,c3,c4⟩:=hC.alloc hJ (.map #[] 0);have hap:∀(id:Nat) b,H[id]?=some b->G8 b=true->b.dead=false->(ρ id).blk≠w.heap.size:=λid b hb hs hd=>Nat.ne_of_lt (hC.srel.has id b hb hs hd).2.2.2.1
 rw[de9];have hnew:(w.alloc (.map #[] 0)).heap[w.heap.size]?=some (.map #[] 0):=World.alloc_heap_new w _;refine .value (x':=.map (some w.heap.size)) (w':=w.alloc (.map #[] 0)) (by simp[execOp,ho,Instr.makeMap,run_newObj_alloc]) ?_
 obtain⟨d1,d2⟩:=c1.adopt w.heap.size 0 c3 (λh=>h.2 rfl) (λo hf=>c4 o hf) (by simp) hap (λhk=>Nat.lt_irrefl _ (hC.kept _ hk).2) { et:=t+1,es:=0,elems:=[],own:=true,dead:=false,g:=0 } (Ab9 (t:=t) ⟨rfl,rfl⟩) rfl
  (.inr ⟨t,kt,el,fl,#[],0,⟨rfl,rfl⟩,hu,hf,hnew,rfl,λi r e hr=>by simp at hr⟩)
 refine⟨_,F,_,d1,λx x' hx=>d2 _ _ (c2 _ _ hx),.c ?_⟩
 have hρn:(ρnew ρ H ⟨w.heap.size,0,0⟩ H.length).blk=w.heap.size:=by simp[ρnew]
 have:=XC.map (ρ:=ρnew ρ H ⟨w.heap.size,0,0⟩) (F:=F) (w:=w.alloc (.map #[] 0)) H.length 0 0 { et:=t+1,es:=0,elems:=[],own:=true,dead:=false,g:=0 } t (H:=H++[{ et:=t+1,es:=0,elems:=[],own:=true,dead:=false,g:=0 }]) (by simp) rfl ⟨rfl,rfl⟩
 rwa [hρn] at this
variable(hv:VR ρ H F w a (ac.tmps.toList++up))(hn:ac.tmps.size=n)(hG:GOk E F w)
include hv hn hG
omit hJ in
theorem Ze7 {t : TypeId} {kt el : TypeId} {fl : List (Nat × CK)} {m : Nat} {y : Operand} (ho : o.op = .lookup t (.tmp m) y false) (hm : Nat.blt m n = true) (hy : ltO n y = true) (hu : E.P.underlying t = some (.map kt el)) (hag : agT E.P kt = true) (hf : ga6 E.P 9 kt = some fl) (hcov : ic6 fl (szT E.P kt) = true) (hz : Ze3 E.P el = true)
  (he:(Ub3 E a H (.mlook t (szT E.P kt) fl m (j8 y))).run=some (x,H')) :
  j9 E.P o ac w (Qb1 E.P WB K J ρ0 H0 F0 w0 ρ H F w up ds x H'):=by
 have hmr:=Ib7 hv hn hG (.tmp m) hm;have hyr:=Ib7 hv hn hG y hy;have hev:(ac.eval (.tmp m))=ac.tmps.getD m undef:=rfl;simp only[Ub3] at he;have hcA:j8 (.tmp m)=.t m:=rfl;rw[hcA] at hmr;cases hs:Cc3 (t+1) H (d7 E a (.t m)) with
 |none=>rw[hs] at he;cases he
 |some q =>
 obtain⟨id,c,g,b⟩:=q;rw[hs] at he
 simp only at he
 obtain⟨h1,h2,h3,h4,h5⟩:=Hd0 hs hmr
 revert he hyr
 generalize d7 E a (j8 y)=ya;intro hyr he
 split at he
 case h_2=>cases he
 ·rename_i ks;obtain⟨hgd,he⟩:=DT.run_guard_some he;have he:some (b7.v (.bool (Cc5 (szT E.P kt) fl ks b.elems)),H)=some (x,H'):=he;rw[Qeb,o0] at hgd;obtain⟨vs,e1,e2,e3,e4⟩:=Ze4 hcov (Ab0 9 kt fl hf) hyr (Qei hgd.1) hgd.2;obtain⟨rfl,rfl⟩:x=b7.v (.bool (Cc5 (szT E.P kt) fl ks b.elems))/\H=H':=by injection he with he;injection he with e1 e2;exact⟨e1.symm,e2⟩
  subst e2;obtain⟨_,_,_,_,hcont⟩:=hC.srel.has id b h2 (Ab9 h4) h3
  rcases hcont with⟨hb,_⟩|⟨t',K',El,fl',es,clk,m1,m2,m3,m4,m5,m6⟩
  ·exact (qc7 hb h4).elim
  have ht:t'=t:=Nat.succ.inj (m1.2.symm.trans h4.2);subst ht;rw[hu] at m2;injection m2 with m2;injection m2 with q1 q2;subst q1 q2
  rw[hf] at m3;injection m3 with m3;subst m3
  have hlen:es.toList.length=b.elems.length:=by rw[Array.length_toList];exact m5.symm
  have hrow:∀(j:Nat) r e,b.elems[j]?=some r->es.toList[j]?=some e->kd1 fl (szT E.P kt) r e:=λj r e hr he=>m6 j r e hr (by simpa using he)
  have hfind:=Uc8 (w:=w) (kl:=szT E.P kt) hag hf e4 es.toList b.elems hlen hrow;have hck:(Instr.checkKey es.isEmpty 10000 kt (.agg vs)).run E.P w=.ok () w:=bb2 es.isEmpty 9 kt fl hf 10000 (by decide) (.agg vs) (λ_=>rfl) (λh=>by rw[hag] at h;cases h) e4
  have hgo:(getObj (ρ id).blk).run E.P w=.ok (.map es clk) w:=ic7 E.P m4
  rcases hfind with⟨k1,k2,_⟩|⟨j,e,r,k1,k2,k3,k4,_,_⟩
  ·have hz' : (zeroValue el).run E.P w = .ok (.bool false) w := by
    unfold Ze3 at hz
    split at hz
    ·rename_i i hi
     split at hz
     ·rename_i bb hbb;cases bb with
      |true=>cases hz
      |false=>simp[zeroValue,typeInfo,hi,hbb]
     ·cases hz
    ·cases hz
   refine .value (x':=.bool false) (w':=w) ?_ ⟨ρ,F,W',hC,λ_ _ h=>h,?_⟩
   ·simp[execOp,ho,Instr.lookup,run_underlying hu,h5,e1,hgo,hck,k1,hz']
   ·unfold Cc5;rw[k2];exact .w (.val (.cell (.v _)))
  ·obtain⟨us,bb,g1,g2,g3,g4,g5⟩:=hrow j r e k3 k2;refine .value (x':=.bool bb) (w':=w) ?_ ⟨ρ,F,W',hC,λ_ _ h=>h,?_⟩
   ·simp[execOp,ho,Instr.lookup,run_underlying hu,h5,e1,hgo,hck,k1,g4]
   ·unfold Cc5;rw[k4]
    have:toB (hdA (j7 r (szT E.P kt)))=bb:=by
     rw[Dc3,g1,<- g2];rw[Qem (by simp)]
     simp[toB]
    show XW ρ H F w (.v (.bool (toB (hdA (j7 r (szT E.P kt)))))) _;rw[this];exact .w (.val (.cell (.v _)))
theorem vf0 {t : TypeId} {kt el : TypeId} {fl : List (Nat × CK)} {m : Nat} {y z : Operand} (ho : o.op = .mapUpdate t (.tmp m) y z) (hm : Nat.blt m n = true) (hy : ltO n y = true) (hz : ltO n z = true) (hu : E.P.underlying t = some (.map kt el)) (hag : agT E.P kt = true) (hf : ga6 E.P 9 kt = some fl) (hcov : ic6 fl (szT E.P kt) = true)
  (he:(Ub3 E a H (.mupd t (szT E.P kt) fl m (j8 y) (j8 z))).run=some (x,H')) :
  j9 E.P o ac w (Qb1 E.P WB K J ρ0 H0 F0 w0 ρ H F w up ds x H'):=by
 have hmr:=Ib7 hv hn hG (.tmp m) hm;have hyr:=Ib7 hv hn hG y hy;have hzr:=Ib7 hv hn hG z hz;simp only[Ub3] at he;have hcA:j8 (.tmp m)=.t m:=rfl;rw[hcA] at hmr;cases hs:Cc3 (t+1) H (d7 E a (.t m)) with
 |none=>rw[hs] at he;cases he
 |some q =>
 obtain⟨id,c,g,b⟩:=q;rw[hs] at he
 simp only at he
 obtain⟨h1,h2,h3,h4,h5⟩:=Hd0 hs hmr
 revert he hyr hzr
 generalize d7 E a (j8 y)=ya;generalize d7 E a (j8 z)=za;intro hyr hzr he
 split at he
 case h_2=>cases he
 rename_i ks bv;obtain⟨hgd,he⟩:=DT.run_guard_some he;have he:some (b7.v (.tuple #[]),setAt H id { b with elems:=Lb4 fl ks (app ks [.v (.bool bv)]) b.elems })=some (x,H'):=he
 rw[Qeb,o0] at hgd;have hkinds:=Ab0 9 kt fl hf;obtain⟨vs,e1,e2,e3,e4⟩:=Ze4 hcov hkinds hyr (Qei hgd.1) hgd.2;have e5:=Ne0 hzr;injection he with he;injection he with q1 q2
 subst q1 q2 e2;obtain⟨hWB,hnW,hnF,hlt,hcont⟩:=hC.srel.has id b h2 (Ab9 h4) h3
 rcases hcont with⟨hb,_⟩|⟨t',K',El,fl',es,clk,m1,m2,m3,m4,m5,m6⟩
 ·exact (qc7 hb h4).elim
 have ht:t'=t:=Nat.succ.inj (m1.2.symm.trans h4.2);subst ht;rw[hu] at m2;injection m2 with m2;injection m2 with q1 q2;subst q1 q2
 rw[hf] at m3;injection m3 with m3;subst m3
 have hlen:es.toList.length=b.elems.length:=by rw[Array.length_toList];exact m5.symm
 have hrow:∀(j:Nat) r e,b.elems[j]?=some r->es.toList[j]?=some e->kd1 fl (szT E.P kt) r e:=λj r e hr he=>m6 j r e hr (by simpa using he)
 have hfind:=Uc8 (w:=w) (kl:=szT E.P kt) hag hf e4 es.toList b.elems hlen hrow;have hck:(Instr.checkKey false 10000 kt (.agg vs)).run E.P w=.ok () w:=bb2 false 9 kt fl hf 10000 (by decide) (.agg vs) (λ_=>rfl) (λh=>by rw[hag] at h;cases h) e4
 have hgo:(getObj (ρ id).blk).run E.P w=.ok (.map es clk) w:=ic7 E.P m4;have hnK:∀k,K k->k≠(ρ id).blk:=λk hk e=>hC.far id b h2 (Ab9 h4) h3 (e ▸ hk)
 have hid:=(Qea.1 h2).1;have hnewrow:∀us:MapEntry,kd1 fl (szT E.P kt) (app (vs.toList.map .v) [.v (.bool bv)]) { us with key:=.agg vs,val:=.bool bv }:=λus=>⟨vs,bv,by rw[G9],e3,rfl,rfl,e4⟩
 have hfin : ∀ (es' : Array MapEntry) (clk' : Nat), (Lb4 fl (vs.toList.map .v) (app (vs.toList.map .v) [.v (.bool bv)]) b.elems).length = es'.size → b.elems.length ≤ es'.size → (∀ (i : Nat) r e, (Lb4 fl (vs.toList.map .v) (app (vs.toList.map .v) [.v (.bool bv)]) b.elems)[i]? = some r → es'[i]? = some e → kd1 fl (szT E.P kt) r e) →
   Qb1 E.P WB K J ρ0 H0 F0 w0 ρ H F w up ds (.v (.tuple #[])) (H.set id { b with elems:=Lb4 fl (vs.toList.map .v) (app (vs.toList.map .v) [.v (.bool bv)]) b.elems }) (.tuple #[]) (w.putObj (ρ id).blk (.map es' clk')):=λes' clk' hl1 hl2 hrows=>by
  obtain⟨c1,c2⟩:=hC.change (w':=w.putObj (ρ id).blk (.map es' clk')) (H':=H.set id { b with elems:=Lb4 fl (vs.toList.map .v) (app (vs.toList.map .v) [.v (.bool bv)]) b.elems }) (up':=up) (ρ id).blk hWB hnW hnF rfl rfl rfl (Qee _) (by simp) (λj hj=>World.putObj_heap_other hj)
   (λcc t' fr hcc=>by rw[m4] at hcc;cases hcc) (by simp)
   (λid' b' hb'=>by
    by_cases e:id=id'
    ·subst e;obtain rfl:b'=b:=Qed (hb'.symm.trans h2);exact⟨{ b' with elems:=Lb4 fl (vs.toList.map .v) (app (vs.toList.map .v) [.v (.bool bv)]) b'.elems },by simp[hid],rfl,rfl,rfl,rfl,by simp only;rw[hl1];exact hl2,λhs0=>by rw[Ab9 h4] at hs0;cases hs0⟩
    ·exact⟨b',by rw[Qel e];exact hb',rfl,rfl,rfl,rfl,Qee _,λ_=>rfl⟩)
   (λid' b' hb' hs' hd' hne=>by
    have e:id≠id':=λe=>hne (by rw[e])
    rw[Qel e];exact hb')
   (λhx id' b' hb' hs' hd' hblk=>by
    have e:id=id':=Qew λhne=>by
     rw[Qel hne] at hb';exact hC.srel.apart id id' b b' h2 hb' (Ab9 h4) hs' h3 hd' hne hblk.symm
    subst e
    have:b'={ b with elems:=Lb4 fl (vs.toList.map .v) (app (vs.toList.map .v) [.v (.bool bv)]) b.elems }:=by simpa [hid] using hb'.symm
    subst this;exact .inr ⟨t',kt,el,fl,es',clk',h4,hu,hf,World.putObj_heap_same hlt,hl1,hrows⟩)
   (hJ up w _ (λk hk=>World.putObj_heap_other (hnK k hk)) hC.jot)
   (λD _ hD e=>by rw[e,m4] at hD;cases hD)
  exact⟨ρ,F,W',c1,c2,.w (.ofv _)⟩
 rw[F5]
 rcases hfind with⟨k1,_,k3⟩|⟨j,e,r,k1,k2,k3,k4,k5,us,k6,k7⟩
 ·have hso:=ic8 E.P (.map (es.push { key:=.agg vs,val:=.bool bv,born:=clk }) (clk+1)) m4;refine .skip (w':=w.putObj (ρ id).blk (.map (es.push { key:=.agg vs,val:=.bool bv,born:=clk }) (clk+1))) ?_ (hfin _ _ ?_ ?_ ?_)
  ·simp[execOp,ho,Instr.mapUpdate,run_underlying hu,h5,e1,e5,hgo,hck,k1,hso]
  ·rw[k3];simp[m5]
  ·simp[m5]
  ·intro i r e hr he;rw[k3] at hr;by_cases hi:i<b.elems.length
   ·rw[Qef hi] at hr;rw[Array.getElem?_push,if_neg (by omega)] at he
    exact m6 i r e hr he
   ·rw[Qem (by omega)] at hr
    have hi0:i-b.elems.length=0:=by
     rcases Nat.eq_zero_or_pos (i-b.elems.length) with h|h
     ·exact h
     ·rw[Qer (by simp;omega)] at hr;cases hr
    rw[hi0] at hr;rw[Array.getElem?_push,if_pos (by omega)] at he
    simp at hr he
    subst hr he;exact hnewrow { key:=.agg vs,val:=.bool bv,born:=clk }
 ·have k2':es[j]?=some e:=by simpa using k2
  obtain⟨us',bb,g1,g2,g3,g4,g5⟩:=hrow j r e k3 k2;rw[k6] at g3;injection g3 with g3;subst g3;have hsame:Instr.sameBits 10000 (.agg us) (.agg vs)=true:=Ne2 (m:=9999) hcov hkinds e3 g2 e4 g5 k7;have hso:=ic8 E.P (.map (es.modify j λe=>{ e with key:=.agg vs,val:=.bool bv }) clk) m4
  refine .skip (w':=w.putObj (ρ id).blk (.map (es.modify j λe=>{ e with key:=.agg vs,val:=.bool bv }) clk)) ?_ (hfin _ _ ?_ ?_ ?_)
  ·simp[execOp,ho,Instr.mapUpdate,run_underlying hu,h5,e1,e5,hgo,hck,k1,k2',k6,Instr.keyThatStays,hsame,hso]
  ·rw[k5];simp[m5]
  ·simp[m5]
  ·intro i r' e' hr he;rw[k5] at hr;rw[Array.getElem?_modify] at he;by_cases hi:j=i
   ·subst hi;rw[if_pos rfl,k2'] at he;have hj:=(Qea.1 k3).1;rw[List.getElem?_set_self hj] at hr
    simp at hr he
    subst hr he;exact hnewrow e
   ·rw[if_neg hi] at he;rw[Qel hi] at hr;exact m6 i r' e' hr he
end
end
def ue5(pr:List Nat):Operand->Option Nat
 |.tmp p=>if pr.contains p then some p else none
 |_=>none
def Ze8(pr:List Nat)(o:Oper):Bool:=match o.dst with
 |some d=>pr.contains d
 |none=>false
def bc5(b:Bool)(x:SP):SP:=match b with
 |true=>x
 |false=>.bad
structure Uf4 where
 kt:TypeId
 el:TypeId
 fl:List (Nat×CK)
def Ze9(P:Program)(t:TypeId):Option Uf4:=match P.underlying t with
 |some (.map kt el)=>match ga6 P 9 kt with
  |some fl=>match agT P kt&&ic6 fl (szT P kt) with
   |true=>some ⟨kt,el,fl⟩
   |false=>none
  |none=>none
 |_=>none
def cSp(P:Program)(n:Nat)(pr:List Nat)(o:Oper):Option SP :=
 match o.op with
 |.alloc t=>match Ze8 pr o with
  |true=>match zeT P t with
   |some z=>some (.balloc z)
   |none=>some .bad
  |false=>none
 |.box _ x=>match Ze8 pr o with
  |true=>some (bc5 (ltO n x) (.bbox (j8 x)))
  |false=>none
 |.load t x=>match ue5 pr x with
  |some p=>some (bc5 (Nat.blt p n&&(P.underlying t).isSome) (.bload (szT P t) (agT P t) p))
  |none=>none
 |.store t x y=>match ue5 pr x with
  |some p=>some (bc5 (Nat.blt p n&&ltO n y&&!Nat.beq (szT P t) 0) (.bstore (szT P t) p (j8 y)))
  |none=>none
 |.fieldAddr s x f=>match ue5 pr x with
  |some p=>match P.underlying s with
   |some (.struct fs)=>match fs[f]? with
    |some fd=>some (bc5 (Nat.blt p n&&!Nat.beq (szT P fd.type) 0) (.bfld fd.offset p))
    |none=>some .bad
   |_=>some .bad
  |none=>none
 |.move x=>match ue5 pr x with
  |some p=>some (bc5 (Nat.blt p n) (.bmv p))
  |none=>none
 |.assign x=>match ue5 pr x with
  |some p=>some (bc5 (Nat.blt p n) (.bmv p))
  |none=>none
 |.makeMap t none=>match Ze9 P t with
  |some _=>some (.mmake t)
  |none=>some .bad
 |.lookup t (.tmp m) y false=>match Ze9 P t with
  |some q=>some (bc5 (Nat.blt m n&&ltO n y&&Ze3 P q.el) (.mlook t (szT P q.kt) q.fl m (j8 y)))
  |none=>some .bad
 |.mapUpdate t (.tmp m) y z=>match Ze9 P t with
  |some q=>some (bc5 (Nat.blt m n&&ltO n y&&ltO n z) (.mupd t (szT P q.kt) q.fl m (j8 y) (j8 z)))
  |none=>some .bad
 |.call c=>match c.callee with
  |.builtin .append=>match Ze8 pr o with
   |true=>match c.args.toList,c.argTypes.toList with
    |[s,x],[t,u]=>match P.underlying t with
     |some (.slice e)=>some (bc5 (Nat.blt 0 (szT P e)&&Nat.beq t u) (.old n (.apre (szT P e) (j8 s) (j8 x))))
     |_=>some .bad
    |_,_=>some .bad
   |false=>none
  |.builtin .clear=>match c.args.toList,c.argTypes.toList with
   |[x],[t]=>match P.underlying t with
    |some (.slice e)=>match zeT P e with
     |some z=>some (bc5 (Nat.blt 0 (szT P e)) (.old n (.clr (szT P e) z (j8 x))))
     |none=>some .bad
    |_=>some .bad
   |_,_=>some .bad
  |_=>none
 |_=>none
structure Rd where
 nOut:Nat
 ps:List Nat
 asq:PC
 body:PC
abbrev HL:=List (Nat×Option (Nat×Bool))
def af0:Option (Nat×Bool)->Option (Nat×Bool)->Bool
 |none,_=>true
 |some (d,b),some (d',b')=>Nat.beq d d'&&(b==b')
 |some _,none=>false
def af1(S:HL)(t:Nat)(g:Option (Nat×Bool)):Bool:=S.any λp=>Nat.beq p.1 t&&af0 p.2 g
def Fc5(ops:Array Oper)(S:HL)(o:Oper):Option (List Operand):=match o.op with
 |.call c=>match c.callee with
  |.value (.tmp t)=>match ea7 ops o with
   |some g=>if af1 S t g then some c.args.toList else none
   |none=>none
  |_=>none
 |_=>none
def kd4(ops:Array Oper)(S:HL)(o:Oper):Option (Nat×Option (Nat×Bool)):=match o.op,o.dst with
 |.move (.tmp t),some d=>match ea7 ops o with
  |some g=>if af1 S t g then some (d,g) else none
  |none=>none
 |_,_=>none
def gOk(n:Nat):Option (Nat×Bool)->Bool
 |none=>true
 |some (d,_)=>Nat.blt d n
def dOk(n:Nat):Option Nat->Bool
 |none=>true
 |some d=>Nat.blt d n
def rmL(S:HL)(dd:List Nat):HL:=S.filter λp=>!dd.contains p.1&&match p.2 with
 |none=>true
 |some (d,_)=>!dd.contains d
def rmD(S:HL):Option Nat->HL
 |none=>S
 |some d=>rmL S [d]
def yc5(l:List Oper):List Nat:=l.filterMap (·.dst)
def Nc9(p:Oper->Bool):List Oper->Nat
 |[]=>0
 |o::r=>match p o with
  |true=>Nc9 p r+1
  |false=>0
def ee2(P:Program)(n:Nat)(pr:List Nat)(ops:Array Oper)(S:HL)(o:Oper):Bool:=(cSp P n pr o).isNone&&(Fc5 ops S o).isNone&&(kd4 ops S o).isNone
def af2(l r:HL):Bool:=l.all λp=>af1 r p.1 p.2
def ee3(P:Program)(n:Nat)(pr:List Nat)(yl:Option Rd)(S0:HL)(ops:Array Oper):Nat->List Oper->HL->PC
 |0,_,_=>.bad
 |_+1,[],S=>match af2 S0 S with
  |true=>.skip
  |false=>.bad
 |f+1,o::r,S=>match Fc5 ops S o with
  |some args=>match yl,ea7 ops o with
   |some rd,some g=>match gOk n g&&dOk n o.dst&&args.all (ltO n)&&Nat.beq args.length rd.ps.length with
    |true=>.seq (.round o.dst g (args.map j8) n rd.nOut rd.ps rd.asq rd.body) (ee3 P n pr yl S0 ops f r (rmD S o.dst))
    |false=>.bad
   |_,_=>.bad
  |none=>match kd4 ops S o with
   |some (d,g)=>match Nat.blt d n with
    |true=>.seq (.mask n [d] (.ops [⟨some d,none,[],.mv (.c .unk)⟩])) (ee3 P n pr yl S0 ops f r ((d,g)::rmL S [d]))
    |false=>.bad
   |none=>match cSp P n pr o with
    |some so=>match ea7 ops o with
     |some g=>match gOk n g&&dOk n o.dst with
      |true=>.seq (.sp o.dst g so) (ee3 P n pr yl S0 ops f r (rmD S o.dst))
      |false=>.bad
     |none=>.bad
    |none=>match sc1 P ops (o::r.take (Nc9 (ee2 P n pr ops S) r)) with
     |some l=>.seq (.mask n (yc5 (o::r.take (Nc9 (ee2 P n pr ops S) r))) (.ops l)) (ee3 P n pr yl S0 ops f (r.drop (Nc9 (ee2 P n pr ops S) r)) (rmL S (yc5 (o::r.take (Nc9 (ee2 P n pr ops S) r)))))
     |none=>.bad
def Ha1(P:Program)(n:Nat)(pr:List Nat)(yl:Option Rd)(S0:HL)(kp:Nat->List Nat)(rf:Operand->Array Tmp->Code->Code->PC)(cur:Nat):Code->PC
 |.skip=>.skip
 |.region _ ops d=>match d with
  |false=>ee3 P n pr yl S0 ops (ops.size+1) ops.toList S0
  |true=>match af2 S0 (rmL S0 (yc5 ops.toList)) with
   |true=>.mask n (yc5 ops.toList) (zb7 P ops)
   |false=>.bad
 |.seq a b=>.seq (Ha1 P n pr yl S0 kp rf cur a) (Ha1 P n pr yl S0 kp rf cur b)
 |.cond c x y=>match ltO n c with
  |true=>.cond (j8 c) (Ha1 P n pr yl S0 kp rf cur x) (Ha1 P n pr yl S0 kp rf cur y)
  |false=>.bad
 |.block id c=>.block id (Ha1 P n pr yl S0 kp rf id c)
 |.loop c=>.loopM (kp cur) (Ha1 P n pr yl S0 kp rf cur c)
 |.label _=>.skip
 |.exit id=>.exit id
 |.ret=>.ret
 |.rangeFunc g ps asq body=>rf g ps asq body
 |_=>.bad
structure xd7 where
 pr:List Nat
 kp:List (Nat×List Nat)
 fi:FuncId
 ki:List (Nat×List Nat)
def Ne3(l:List (Nat×List Nat))(id:Nat):List Nat:=match l.find? λp=>Nat.beq p.1 id with
 |some p=>p.2
 |none=>[]
def Fc6(_:Operand)(_:Array Tmp)(_ _:Code):PC:=.bad
def Uf5(P:Program)(h:xd7)(n:Nat)(ps:Array Tmp)(asq body:Code):Rd :=
 ⟨n,ps.toList,Ha1 P n h.pr none [] (Ne3 h.kp) Fc6 0 asq,Ha1 P n h.pr none [] (Ne3 h.kp) Fc6 0 body⟩
def ue6(P:Program)(h:xd7)(fnI:Func)(cI:Code)(n:Nat)(g:Operand)(ps:Array Tmp)(asq body:Code):PC :=
 match ltO n g&&Nat.beq fnI.results.size 0&&ps.toList.all (λp=>Nat.blt p n) with
 |true=>.inner h.fi (j8 g) fnI.ntmps (Ha1 P fnI.ntmps [] (some (Uf5 P h n ps asq body)) [(0,none)] (Ne3 h.ki) Fc6 0 cI)
 |false=>.bad
def Bb0(P:Program)(h:xd7)(fnI fn:Func):Option PFn :=
 match fn.body,fnI.body with
 |some c,some cI =>
  if fn.results.toList.all (Zd5 P) then some ⟨fn.ntmps,fn.results.toList.map (fd9 P),Ha1 P fn.ntmps h.pr none [] (Ne3 h.kp) (ue6 P h fnI cI fn.ntmps) 0 c⟩ else none
 |_,_=>none
def ee4(H:List b8):Bool:=List.rec (motive:=λ_=>Bool) true (λb _ ih=>Bool.rec (motive:=λ_=>Bool) ih false (G8 b)) H
def Vb8(E:Env)(fn:PFn)(args:List b7)(blks:List b8):DT (b7×List b8) :=
 .guard (Bool.and (ee4 blks) (Nat.ble (len args) fn.ntmps)) ((S7 E (len blks) fn.body ⟨app args (List.replicate (fn.ntmps-len args) (.v (.tuple #[]))),blks⟩).bind λr =>
  match r.1 with
  |.exit _=>.fail
  |_=>match nb7 (rb8 (p5 (oa7 r.2.H) r.2.a) (q9 r.2.H)) fn.res with
   |some l=>.guard (ee4 (N8 r.2.H (len blks))) (fc6 (len blks) (q9 r.2.H) (Lb5 l))
   |none=>.fail)
section
variable{WB K:Nat->Prop}{J:List Value->World->Prop}{DF:List Deferred->Prop}{S:HL}{rv:Value}{ρ ρ0:Rho}{H H0 H':List b8}{F F0:Fz}{w w0 w':World}{W':Nat->Prop}{up:List Value}{E:Env}{a:List b7}{s s':St}{ac:Act}{x:b7}{o:Oper}{n:Nat}
def bc6(tmps:Array Value):Option (Nat×Bool)->Prop
 |none=>True
 |some (d,b)=>tmps[d]?=some (.bool b)
structure I3(P:Program)(WB K:Nat->Prop)(J:List Value->World->Prop)(n:Nat)(S:HL)(rv:Value)(DF:List Deferred->Prop)(ρ0:Rho)(H0:List b8)(F0:Fz)(w0:World)(s:St)(ac:Act)(w:World):Prop where
 inv:Me7 P WB K J n ρ0 H0 F0 w0 s ac w
 held:∀p∈S,bc6 ac.tmps p.2->ac.tmps[p.1]?=some rv
 df:DF ac.defers
theorem Ga0{b:Bool}{so:SP}(h:(Ub3 E a H (bc5 b so)).run=some (x,H')):b=true/\bc5 b so=so:=by
 cases b with
 |true=>exact⟨rfl,rfl⟩
 |false=>cases h
theorem Qb2{pr:List Nat}{y:Operand}{p:Nat}(h:ue5 pr y=some p):y=.tmp p:=by
 unfold ue5 at h
 split at h
 ·split at h
  ·injection h with h;rw[h]
  ·cases h
 ·cases h
theorem Oc0{P:Program}{t:TypeId}{q:Uf4}(h:Ze9 P t=some q):P.underlying t=some (.map q.kt q.el)/\ga6 P 9 q.kt=some q.fl/\agT P q.kt=true/\ic6 q.fl (szT P q.kt)=true:=by
 unfold Ze9 at h
 split at h
 ·rename_i kt el hu
  split at h
  ·rename_i fl hf
   split at h
   ·rename_i hc;injection h with h;subst h;rw[Qeb] at hc;exact⟨hu,hf,hc.1,hc.2⟩
   ·cases h
  ·cases h
 ·cases h
theorem Fc7{k:Nat}(h:(!Nat.beq k 0)=true):k≠0:=λe=>by subst e;cases h
theorem VR.arel(hv:VR ρ H F w a (ac.tmps.toList++up))(hn:ac.tmps.size=n):Ca3 ρ (q9 H) F w (p5 (oa7 H) (N8 a n)) ac.tmps:=by
 have hl:=hv.1;have hsz:ac.tmps.toList.length=ac.tmps.size:=Array.length_toList;rw[Qek] at hl;rw[p6,O0];refine⟨by rw[List.length_map,List.length_take];omega,λi x x' hx hx'=>?_⟩
 rw[Qeg] at hx;have hi:i<n:=hn ▸ (Qeh.1 hx').1;rw[Qeo,if_pos hi] at hx;cases hy:a[i]? with
 |none=>rw[hy] at hx;cases hx
 |some y =>
  rw[hy] at hx;injection hx with hx;subst hx;refine Gd8 (hv.2 i y x' hy ?_);rw[Qef (by rw[Array.length_toList];omega)]
  simpa using hx'
theorem af3 {px : PO} {ds : List Deferred} (hC : C2 E.P WB K J ρ0 H0 F0 w0 H ds w ρ F W' up) (hJ : yc4 K J)
  (hop:∀H1,(evalOp E (p5 (oa7 H) (N8 a n)) (q9 H) px).run=some (x,H1)->j9 E.P o ac w (R5 W' ρ (q9 H) F w x H1)) (he:(Ub3 E a H (.old n px)).run=some (x,H')):j9 E.P o ac w (Qb1 E.P WB K J ρ0 H0 F0 w0 ρ H F w up ds x H'):=by
 obtain⟨⟨x1,H1⟩,h1,h2⟩:=DT.run_bind_some (show ((evalOp E (p5 (oa7 H) (N8 a n)) (q9 H) px).bind λr=>.guard (Cc2 H r.2) (.ret (r.1,C4 H r.2))).run=some (x,H') from he)
 obtain⟨hok,h2⟩:=DT.run_guard_some h2;have h2:some (x1,C4 H H1)=some (x,H'):=h2;injection h2 with h2;injection h2 with e1 e2;subst e1 e2
 intro next Q hp;refine hop H1 h1 next Q λx' w' ⟨ρ',F',k1,k2,k3⟩=>hp x' w' ?_
 obtain⟨c1,c2⟩:=hC.step hJ k1 hok k2;exact⟨_,F',W',c1,c2,.w (ue3 k1 hok k3)⟩
theorem Ef4{α:Type}{l:Array α}{a b:α}(h:l.toList=[a,b]):l=#[a,b]:=by
 apply Array.ext';simpa using h
theorem Ef5{α:Type}{l:Array α}{a:α}(h:l.toList=[a]):l=#[a]:=by
 apply Array.ext';simpa using h
theorem Uf6 {pr : List Nat} {so : SP} {ds : List Deferred} (hC : C2 E.P WB K J ρ0 H0 F0 w0 H ds w ρ F W' up) (hJ : yc4 K J) (hv : VR ρ H F w a (ac.tmps.toList ++ up)) (hn : ac.tmps.size = n) (hG : GOk E F w)
  (hs:cSp E.P n pr o=some so) (he:(Ub3 E a H so).run=some (x,H')):j9 E.P o ac w (Qb1 E.P WB K J ρ0 H0 F0 w0 ρ H F w up ds x H'):=by
 unfold cSp at hs
 split at hs
 ·rename_i t ho
  split at hs
  ·split at hs
   ·rename_i z hz;injection hs with hs;subst hs
    exact Me8 hC hJ ho hz he
   ·injection hs with hs;subst hs;cases he
  ·cases hs
 ·rename_i t y ho
  split at hs
  ·injection hs with hs;subst hs
   obtain⟨h1,h2⟩:=Ga0 he;rw[h2] at he;exact uf7 hC hJ hv hn hG ho h1 he
  ·cases hs
 ·rename_i t y ho
  split at hs
  ·rename_i p hp;injection hs with hs;subst hs
   obtain⟨h1,h2⟩:=Ga0 he;rw[h2] at he;rw[Qeb] at h1;rw[Qb2 hp] at ho;exact Ye9 hC hv hn hG ho h1.1 (λe=>by rw[e] at h1;cases h1.2) he
  ·cases hs
 ·rename_i t y z ho
  split at hs
  ·rename_i p hp;injection hs with hs;subst hs
   obtain⟨h1,h2⟩:=Ga0 he;rw[h2] at he;rw[Qeb,Qeb] at h1;rw[Qb2 hp] at ho;exact Me9 hC hJ hv hn hG ho h1.1.1 h1.1.2 (Fc7 h1.2) he
  ·cases hs
 ·rename_i st y f ho
  split at hs
  ·rename_i p hp
   split at hs
   ·rename_i fs hu
    split at hs
    ·rename_i fd hf;injection hs with hs;subst hs
     obtain⟨h1,h2⟩:=Ga0 he;rw[h2] at he;rw[Qeb] at h1;rw[Qb2 hp] at ho;exact uf9 hC hv hn hG ho h1.1 hu hf (Fc7 h1.2) he
    ·injection hs with hs;subst hs;cases he
   ·injection hs with hs;subst hs;cases he
  ·cases hs
 ·rename_i y ho
  split at hs
  ·rename_i p hp;injection hs with hs;subst hs
   obtain⟨h1,h2⟩:=Ga0 he;rw[h2] at he;rw[Qb2 hp] at ho;exact Ze0 hC hv hn hG (.inl ho) h1 he
  ·cases hs
 ·rename_i y ho
  split at hs
  ·rename_i p hp;injection hs with hs;subst hs
   obtain⟨h1,h2⟩:=Ga0 he;rw[h2] at he;rw[Qb2 hp] at ho;exact Ze0 hC hv hn hG (.inr ho) h1 he
  ·cases hs
 ·rename_i t ho
  split at hs
  ·rename_i q hq;injection hs with hs;subst hs
   obtain⟨h1,h2,_,_⟩:=Oc0 hq;exact Ze6 hC hJ ho h1 h2 he
  ·injection hs with hs;subst hs;cases he
 ·rename_i t m y ho
  split at hs
  ·rename_i q hq;injection hs with hs;subst hs
   obtain⟨h1,h2,h3,h4⟩:=Oc0 hq;obtain⟨k1,k2⟩:=Ga0 he;rw[k2] at he;rw[Qeb,Qeb] at k1;exact Ze7 hC hv hn hG ho k1.1.1 k1.1.2 h1 h3 h2 h4 k1.2 he
  ·injection hs with hs;subst hs;cases he
 ·rename_i t m y z ho
  split at hs
  ·rename_i q hq;injection hs with hs;subst hs
   obtain⟨h1,h2,h3,h4⟩:=Oc0 hq;obtain⟨k1,k2⟩:=Ga0 he;rw[k2] at he;rw[Qeb,Qeb] at k1;exact vf0 hC hJ hv hn hG ho k1.1.1 k1.1.2 k1.2 h1 h3 h2 h4 he
  ·injection hs with hs;subst hs;cases he
 ·rename_i c ho
  split at hs
  ·rename_i hcb
   split at hs
   ·split at hs
    ·rename_i y z t u hargs htys
     split at hs
     ·rename_i e hu;injection hs with hs;subst hs
      obtain⟨k1,k2⟩:=Ga0 he;rw[k2] at he;rw[Qeb,Qex] at k1;have htu:=Qei k1.2;subst htu;obtain⟨ti,hi,hi0,hi1⟩:=dd3 (Nat.ne_of_gt k1.1);refine af3 hC hJ (λH1 h1=>?_) he
      exact gd2 (hv.arel hn) hC.hrel hG ho hcb (Ef4 hargs) (Ef4 htys) hu hi (by omega) h1
     ·injection hs with hs;subst hs;cases he
    ·injection hs with hs;subst hs;cases he
   ·cases hs
  ·rename_i hcb
   split at hs
   ·rename_i y t hargs htys
    split at hs
    ·rename_i e hu
     split at hs
     ·rename_i z hz;injection hs with hs;subst hs
      obtain⟨k1,k2⟩:=Ga0 he;rw[k2] at he;rw[Qex] at k1;refine af3 hC hJ (λH1 h1=>?_) he
      exact Fd1 (hv.arel hn) hC.hrel hG ho hcb (Ef5 hargs) (Ef5 htys) hu hz k1 h1
     ·injection hs with hs;subst hs;cases he
    ·injection hs with hs;subst hs;cases he
   ·injection hs with hs;subst hs;cases he
  ·cases hs
 ·cases hs
theorem VR.putA(hv:VR ρ H F w a (ac.tmps.toList++up))(hn:ac.tmps.size=n){dst:Option Nat}(hd:dOk n dst=true){x':Value}(hx:XW ρ H F w x x'):VR ρ H F w (Ev.putA a dst x) ((ac.put dst x').tmps.toList++up):=by
 rw[qc1];cases dst with
 |none=>exact hv
 |some d =>
  have hd:d<n:=by have:=hd;unfold dOk at this;rwa [Qex] at this
  have e:(ac.put (some d) x').tmps.toList++up=(ac.tmps.toList++up).set d x':=by
   rw[List.set_append_left _ _ (by rw[Array.length_toList];omega)]
   simp[Act.put]
  rw[e];refine⟨by simp only[List.length_set];exact hv.1,λi y y' hy hy'=>?_⟩
  rw[Qev] at hy hy';by_cases hi:d=i
  ·subst hi;have hl:d<(ac.tmps.toList++up).length:=by rw[Qek,Array.length_toList];omega
   rw[if_pos rfl,if_pos (hv.1 ▸ hl)] at hy;rw[if_pos rfl,if_pos hl] at hy';injection hy with hy;injection hy' with hy'
   subst hy hy';exact hx
  ·rw[if_neg hi] at hy hy';exact hv.2 i y y' hy hy'
theorem VR.tr{vs:List Value}{ρ':Rho}{F':Fz}(hv:VR ρ H F w a vs)(ht:Tr ρ H F w ρ' H' F' w'):VR ρ' H' F' w' a vs:=⟨hv.1,λi x x' hx hx'=>ht _ _ (hv.2 i x x' hx hx')⟩
theorem VR.at(hv:VR ρ H F w a (ac.tmps.toList++up))(hn:ac.tmps.size=n){t:Nat}(ht:t<n):∃x',ac.tmps[t]?=some x'/\XW ρ H F w (d7 E a (.t t)) x':=by
 have hl:=hv.1;have hsz:ac.tmps.toList.length=ac.tmps.size:=Array.length_toList;rw[Qek] at hl;have h1:t<a.length:=by omega
 have h2:t<ac.tmps.size:=by omega
 refine⟨ac.tmps[t],by simp[h2],?_⟩
 rw[vb5,Qec h1];refine hv.2 t _ _ (Qec h1) ?_;rw[Qef (by rw[Array.length_toList];exact h2)]
 simp[h2]
theorem uc0 {ops : Array Oper} {g : Option (Nat × Bool)} {d : St → DT St} (hg : ea7 ops o = some g) (hgn : gOk n g = true) (hv : VR ρ H F w s.a (ac.tmps.toList ++ up)) (hn : ac.tmps.size = n) (he : (cd8 E s o.dst g d).run = some s') :
  (Region.wanted o (yielded ops ac.tmps)=true/\(d s).run=some s')\/(Region.wanted o (yielded ops ac.tmps)=false/\s'=⟨putA s.a o.dst (.v (.tuple #[])),s.H⟩):=by
 unfold ea7 at hg;unfold Region.wanted;cases hgo:o.guard with
 |none =>
  simp only[hgo] at hg ⊢;injection hg with hg;subst hg;exact .inl ⟨trivial,he⟩
 |some jw =>
  obtain⟨j,want⟩:=jw;simp only[hgo] at hg ⊢;cases hj:ops[j]? with
  |none=>simp[hj] at hg
  |some oj =>
  simp only[hj] at hg;cases hd:oj.dst with
  |none=>simp[hd] at hg
  |some dd =>
  simp only[hd] at hg;injection hg with hg;subst hg;have hdn:dd<n:=by have:=hgn;unfold gOk at this;rwa [Qex] at this
  obtain⟨u',hu1,hu2⟩:=hv.at (E:=E) hn hdn;have he':(match d7 E s.a (.t dd) with
   | .v (.bool b) => Bool.rec (motive := fun _ => DT St)
     (.ite b (.ret ⟨putA (setAt s.a dd (.v (.bool true))) o.dst (.v (.tuple #[])),s.H⟩) (d ⟨setAt s.a dd (.v (.bool false)),s.H⟩))
     (.ite b (d ⟨setAt s.a dd (.v (.bool true)),s.H⟩) (.ret ⟨putA (setAt s.a dd (.v (.bool false))) o.dst (.v (.tuple #[])),s.H⟩)) want
   |.v (.tuple _)=>.ret ⟨putA s.a o.dst (.v (.tuple #[])),s.H⟩
   |_=>.fail).run=some s':=he
  have hset:∀b,d7 E s.a (.t dd)=.v (.bool b)->setAt s.a dd (.v (.bool b))=s.a:=λb h=>ce0 (E:=E) (by simp) h
  revert he' hu2 hset
  generalize d7 E s.a (.t dd)=u;intro hu2 he' hset
  split at he'
  ·rename_i b;have hb:=Ne0 hu2;subst hb;rw[Ub9 hj hd hu1];have hs:=hset b rfl;cases want<;>cases b
   ·rw[hs] at he';exact .inl ⟨rfl,he'⟩
   ·refine .inr ⟨rfl,?_⟩;rw[hs] at he';exact (Qed he').symm
   ·refine .inr ⟨rfl,?_⟩;rw[hs] at he';exact (Qed he').symm
   ·rw[hs] at he';exact .inl ⟨rfl,he'⟩
  ·rename_i vs;have hb:=Ne0 hu2;subst hb;rw[Lb8 hj hd hu1];exact .inr ⟨rfl,(Qed he').symm⟩
  ·cases he'
theorem kd5{a a':Array Value}{dd:List Nat}(h:∀p∈S,bc6 a p.2->a[p.1]?=some rv)(hs:∀t,¬ t∈dd->a'[t]?=a[t]?):∀p∈rmL S dd,bc6 a' p.2->a'[p.1]?=some rv:=by
 intro p hp hg;simp only[rmL,List.mem_filter,Qeb] at hp;obtain⟨h1,h2,h3⟩:=hp;rw[hs p.1 (by simpa using h2)]
 refine h p h1 ?_;obtain⟨t,g⟩:=p;cases g with
 |none=>trivial
 |some q =>
  obtain⟨d,b⟩:=q;have h3:¬ d∈dd:=by simpa using h3
  exact (hs d h3).symm.trans hg
theorem Bb1{dst:Option Nat}{v:Value}(h:∀p∈S,bc6 ac.tmps p.2->ac.tmps[p.1]?=some rv):∀p∈rmD S dst,bc6 (ac.put dst v).tmps p.2->(ac.put dst v).tmps[p.1]?=some rv:=by
 cases dst with
 |none=>exact h
 |some d=>exact kd5 h λt ht=>Fc4 λe=>by injection e with e;subst e;simp at ht
theorem ue7{tmps:Array Value}{g g':Option (Nat×Bool)}(h:af0 g g'=true)(hg:bc6 tmps g'):bc6 tmps g:=by
 cases g with
 |none=>trivial
 |some q =>
  obtain⟨d,b⟩:=q;cases g' with
  |none=>cases h
  |some q' =>
   obtain⟨d',b'⟩:=q';simp only[af0,Qeb,beq_iff_eq] at h;have h1:=Qei h.1;obtain⟨_,h2⟩:=h;subst h1 h2;exact hg
theorem Oc1{tmps:Array Value}{t:Nat}{g:Option (Nat×Bool)}(h:∀p∈S,bc6 tmps p.2->tmps[p.1]?=some rv)(hs:af1 S t g=true)(hg:bc6 tmps g):tmps[t]?=some rv:=by
 simp only[af1,List.any_eq_true,Qeb] at hs;obtain⟨p,h1,h2,h3⟩:=hs
 have:=h p h1 (ue7 h3 hg)
 rwa [Qei h2] at this
theorem ic9{ops:Array Oper}{o:Oper}{g:Option (Nat×Bool)}{tmps:Array Value}(hg:ea7 ops o=some g):Region.wanted o (yielded ops tmps)=true↔bc6 tmps g:=by
 unfold ea7 at hg;unfold Region.wanted;cases hgo:o.guard with
 |none =>
  simp only[hgo] at hg ⊢;injection hg with hg;subst hg;exact⟨λ_=>trivial,λ_=>trivial⟩
 |some jw =>
  obtain⟨j,want⟩:=jw;simp only[hgo] at hg ⊢;cases hj:ops[j]? with
  |none=>simp[hj] at hg
  |some oj =>
  simp only[hj] at hg;cases hd:oj.dst with
  |none=>simp[hd] at hg
  |some d =>
  simp only[hd] at hg;injection hg with hg;subst hg;simp only[yielded,hj,Option.bind_some,hd,bc6];cases tmps[d]? with
  |none=>simp
  |some v=>cases v<;>simp
theorem Mf6 {Fe : Fence} {m i : Nat} {pr : List Nat} {so : SP} {g : Option (Nat × Bool)} {ops : Array Oper} {rest : List Nat} {Q : Exit → Act → World → Prop} (hF : FW Fe) (hG0 : GOk E F0 w0) (hJ : yc4 K J) (hi : ops[i]? = some o)
  (hs:cSp E.P n pr o=some so) (hg:ea7 ops o=some g) (hgn:gOk n g=true) (hdn:dOk n o.dst=true) (hI:I3 E.P WB K J n S rv DF ρ0 H0 F0 w0 s ac w) (he:(qe4 E s o.dst g so).run=some s')
  (hQ:∀ac' w',I3 E.P WB K J n (rmD S o.dst) rv DF ρ0 H0 F0 w0 s' ac' w'->wpOpsIn Fe m E.P ops Q rest ac' w'):wpOpsIn Fe m E.P ops Q (i::rest) ac w:=by
 obtain⟨⟨ρ,F,W',up,hI2⟩,hheld,hdf⟩:=hI;simp only[wpOpsIn,hi]
 rcases uc0 hg hgn hI2.vals hI2.size he with⟨hw,he⟩|⟨hw,rfl⟩
 ·rw[if_pos hw];obtain⟨⟨x,H'⟩,h1,h2⟩:=DT.run_bind_some he;have h2:some (⟨putA s.a o.dst x,H'⟩:St)=some s':=h2;injection h2 with h2;subst h2;have hop:=Uf6 (ac:={ ac with defers:=[] }) (ds:=ac.defers) hI2.core hJ hI2.vals hI2.size (hG0.adv hI2.core.adv) hs h1
  refine hop.inAny hF m _ _ λx' w' hp=>?_
  obtain⟨ρ',F',W'',c1,c2,c3⟩:=hp;exact hQ _ _ ⟨⟨ρ',F',W'',up,by rw[E6];exact c1,(hI2.vals.tr c2).putA hI2.size hdn c3,(ya7 _ _).trans hI2.size⟩,Bb1 hheld,by rw[E6];exact hdf⟩
 ·rw[if_neg (by simp[hw])]
  refine⟨λf _=>hF.fn f,hQ _ _ ⟨⟨ρ,F,W',up,by rw[E6];exact hI2.core,hI2.vals.putA hI2.size hdn (.w (.ofv _)),(ya7 _ _).trans hI2.size⟩,Bb1 hheld,by rw[E6];exact hdf⟩⟩
theorem af4 {Fe : Fence} {m i d k : Nat} {g : Option (Nat × Bool)} {ops : Array Oper} {rest : List Nat} {Q : Exit → Act → World → Prop} {xx : f8} (hF : FW Fe) (hG0 : GOk E F0 w0) (hcalls : ∀ f, g9 E.P E.G f (E.call f)) (hJ : yc4 K J) (hi : ops[i]? = some o)
  (hc:kd4 ops S o=some (d,g)) (hdn:d<n) (hI:I3 E.P WB K J n S rv DF ρ0 H0 F0 w0 s ac w) (he:(S7 E k (.mask n [d] (.ops [⟨some d,none,[],.mv (.c .unk)⟩])) s).run=some (xx,s'))
  (hQ:xx=.normal->∀ac' w',I3 E.P WB K J n ((d,g)::rmL S [d]) rv DF ρ0 H0 F0 w0 s' ac' w'->wpOpsIn Fe m E.P ops Q rest ac' w'):wpOpsIn Fe m E.P ops Q (i::rest) ac w:=by
 obtain⟨⟨ρ,F,W',up,hI2⟩,hheld,hdf⟩:=hI;unfold kd4 at hc
 split at hc
 case h_2=>cases hc
 rename_i t d' ho hd
 split at hc
 case h_2=>cases hc
 rename_i g' hg
 split at hc
 case isFalse=>cases hc
 rename_i hS;injection hc with hc;injection hc with e1 e2;subst e1 e2;simp only[wpOpsIn,hi];have he':((S7 E k (.ops [⟨some d',none,[],.mv (.c .unk)⟩]) ⟨p5 (oa7 s.H) (N8 s.a n),q9 s.H⟩).bind λr=>.guard (Cc2 s.H r.2.H) (.ret (r.1,⟨ya0 [d'] s.a r.2.a 0,C4 s.H r.2.H⟩))).run=some (xx,s'):=he
 obtain⟨⟨x1,s1⟩,h1,h2⟩:=DT.run_bind_some he';obtain⟨hok,h2⟩:=DT.run_guard_some h2;have h1:some (f8.normal,(⟨putA (p5 (oa7 s.H) (N8 s.a n)) (some d') .unk,q9 s.H⟩:St))=some (x1,s1):=h1;injection h1 with h1;injection h1 with e1 e2;subst e1 e2
 have h2:some (f8.normal,(⟨ya0 [d'] s.a (putA (p5 (oa7 s.H) (N8 s.a n)) (some d') .unk) 0,C4 s.H (q9 s.H)⟩:St))=some (xx,s'):=h2;injection h2 with h2;injection h2 with e1 e2;subst e1 e2
 obtain⟨c1,c2⟩:=hI2.core.step hJ .refl hok hI2.core.hrel;have hvr:∀v,VR (ρsp s.H ρ ρ) (C4 s.H (q9 s.H)) F w (ya0 [d'] s.a (putA (p5 (oa7 s.H) (N8 s.a n)) (some d') .unk) 0) ((ac.put o.dst v).tmps.toList++up):=λv=>by
  refine⟨by rw[ic5];have:=hI2.vals.1;rw[Qek,Array.length_toList] at this ⊢;rw[ya7];exact this,λi y y' hy hy'=>?_⟩
  rw[ic4] at hy;cases hz:s.a[i]? with
  |none=>rw[hz] at hy;cases hy
  |some z =>
   rw[hz] at hy;injection hy with hy;rw[Qey] at hy;by_cases hid:i=d'
   ·subst hid;have hm:nb8 i [i]=true:=(kd3 _ _).2 (by simp)
    rw[hm] at hy;have hy:((putA (p5 (oa7 s.H) (N8 s.a n)) (some i) .unk)[i]?).getD .unk=y:=hy;rw[qc1] at hy;simp only[Qev] at hy
    have:y=.unk:=by
     rw[<- hy];simp only[if_true]
     split<;>rfl
    subst this;exact .w (.unk _)
   ·have hm : nb8 i [d'] = false := by
     cases h:nb8 i [d'] with
     |false=>rfl
     |true=>exact absurd (by simpa using (kd3 _ _).1 h) hid
    rw[hm] at hy;have hy:z=y:=hy;subst hy;refine c2 _ _ (hI2.vals.2 i z y' hz ?_);rw[hd] at hy';simpa [Act.put,List.getElem?_append,Array.getElem?_setIfInBounds_ne,Ne.symm hid] using hy'
 have hfin:∀v,(Region.wanted o (yielded ops ac.tmps)=true->v=rv)->(Region.wanted o (yielded ops ac.tmps)=false->v=undef)->wpOpsIn Fe m E.P ops Q rest (ac.put o.dst v) w:=λv hv1 hv2=>by
  refine hQ rfl _ _ ⟨⟨_,F,W',up,by rw[E6];exact c1,hvr v,(ya7 _ _).trans hI2.size⟩,λp hp hgp=>?_,by rw[E6];exact hdf⟩
  have hlt:d'<ac.tmps.size:=Nat.lt_of_lt_of_eq hdn hI2.size.symm;have hset:(ac.put (some d') v).tmps[d']?=some v:=by
   show (ac.tmps.setIfInBounds d' v)[d']?=some v;exact Array.getElem?_setIfInBounds_self_of_lt hlt
  rcases List.mem_cons.1 hp with rfl|hp
  ·cases hw:Region.wanted o (yielded ops ac.tmps) with
   |true=>rw[hd,<- hv1 hw];exact hset
   |false =>
    exfalso;have hng:¬ bc6 ac.tmps g':=λh=>by rw[(ic9 hg).2 h] at hw;cases hw
    cases g' with
    |none=>exact hng trivial
    |some q =>
     obtain⟨dg,b⟩:=q;have hgq:(ac.put o.dst v).tmps[dg]?=some (.bool b):=hgp;by_cases he:dg=d'
     ·subst he;rw[hd,hset,hv2 hw] at hgq;injection hgq with hgq;cases hgq
     ·rw[Fc4 (λe=>he (by rw[hd] at e;injection e with e;exact e.symm))] at hgq
      exact hng hgq
  ·have:=Bb1 (dst:=some d') (v:=v) hheld p hp
   rw[hd] at hgp ⊢;exact this hgp
 by_cases hw:Region.wanted o (yielded ops ac.tmps)=true
 ·rw[if_pos hw];have ht:=Oc1 hheld hS ((ic9 hg).1 hw);have hop:j9 E.P o { ac with defers:=[] } w (λv w'=>v=rv/\w'=w):=by
   have hev:({ ac with defers:=[] }:Act).eval (.tmp t)=rv:=by
    show ac.tmps.getD t undef=rv;have hlt:=(Qeh.1 ht).1
    have:=(Qeh.1 ht).2
    simp[Array.getD,hlt,this]
   exact .value (x':=rv) (w':=w) (by simp[execOp,ho,hev]) ⟨rfl,rfl⟩
  refine hop.inAny hF m _ _ λv w' hp=>?_
  obtain⟨rfl,rfl⟩:=hp;exact hfin _ (λ_=>rfl) λh=>by rw[hw] at h;cases h
 ·rw[if_neg hw];exact⟨λf _=>hF.fn f,hfin _ (λh=>absurd h hw) λ_=>rfl⟩
end
section
variable{P:Program}{k:Nat}{WB K:Nat->Prop}{J:List Value->World->Prop}{DF:List Deferred->Prop}{S:HL}{rv:Value}{ρ ρ0:Rho}{H H0 H2:List b8}{F F0:Fz}{w w0:World}{W':Nat->Prop}{up:List Value}{E:Env}{R:List Nat}{n:Nat}
def af5(H:List b8)(x:b7)(r:List Nat):List Nat:=match x with
 |.ptr id _ _ g=>match blkAt H id g with
  |some _=>(Ja4 r id).2
  |none=>r
 |.sl id _ _ g=>match blkAt H id g with
  |some _=>(Ja4 r id).2
  |none=>r
 |_=>r
theorem af6(H:List b8)(x:b7)(r:List Nat)(hr:TOk k r):TOk k (af5 H x r)/\TLe r (af5 H x r):=by
 have step:∀id,TOk k (Ja4 r id).2/\TLe r (Ja4 r id).2:=λid=>by
  obtain⟨h1,h2,_⟩:=hr.idx (id:=id) (j:=(Ja4 r id).1) (r:=(Ja4 r id).2) rfl;exact⟨h1,h2⟩
 unfold af5;split
 ·split
  ·exact step _
  ·exact⟨hr,.refl _⟩
 ·split
  ·exact step _
  ·exact⟨hr,.refl _⟩
 ·exact⟨hr,.refl _⟩
theorem ee5(H:List b8):∀(cs:List b7) (r:List Nat),TOk k r->TOk k (Ae6 H cs r)/\TLe r (Ae6 H cs r)
 |[],r,hr=>⟨hr,.refl _⟩
 |x::cs,r,hr=>by
  have hx:=af6 H x r hr;obtain⟨h1,h2⟩:=ee5 H cs _ hx.1;exact⟨h1,hx.2.trans h2⟩
def af7(H:List b8)(id:Nat)(r:List Nat):List Nat:=match nth H id with
 |some b=>match G8 b&&Nat.beq b.et 0 with
  |true=>Ae6 H (l9 b.elems 0) r
  |false=>r
 |none=>r
theorem af8(H:List b8)(id:Nat)(r:List Nat)(hr:TOk k r):TOk k (af7 H id r)/\TLe r (af7 H id r):=by
 unfold af7;split
 ·split
  ·exact ee5 H _ r hr
  ·exact⟨hr,.refl _⟩
 ·exact⟨hr,.refl _⟩
theorem ee6(H:List b8):∀(ids:List Nat) (r:List Nat),TOk k r->TOk k (Ed3 H ids r)/\TLe r (Ed3 H ids r)
 |[],r,hr=>⟨hr,.refl _⟩
 |id::ids,r,hr=>by
  have hx:=af8 H id r hr;obtain⟨h1,h2⟩:=ee6 H ids _ hx.1;exact⟨h1,hx.2.trans h2⟩
def Ce4(b:b8):b8:=Bool.rec (motive:=λ_=>b8) b { b with dead:=true } (G8 b)
theorem Oc2(H:List b8):q9 H=H.map Ce4:=Ab7 H
theorem Vb9:∀{R:List Nat} {j:Nat} {H2:List b8},Sa2 k H j R=some H2->Sa2 k (q9 H) j R=some (q9 H2)
 |[],j,H2,h=>by
  simp only[Sa2] at h ⊢;injection h with h;subst h;rfl
 |id::R,j,H2,h=>by
  simp only[Sa2,C5] at h ⊢;cases hb:H[id]? with
  |none=>simp[hb] at h
  |some b =>
  simp only[hb] at h;cases hr:Sa2 k H (j+1) R with
  |none=>simp[hr] at h
  |some l =>
  simp only[hr] at h;injection h with h;subst h;have e:(q9 H)[id]?=some (Ce4 b):=by rw[Oc2,Qeg,hb];rfl
  rw[e,Vb9 hr];simp only[Oc2,Qeab];congr 2;unfold Ce4;cases Nat.blt j k<;>cases hs:G8 b<;>simp[G8] at hs ⊢<;>simp[hs]
theorem vf1(x:b7):TC k H R x (Ue8 k H R x):=by
 unfold Ue8;split
 ·rename_i id i c g;split
  ·rename_i b hb;split
   ·rename_i j hj
    have:=(vb6 R 0 id j hj).2
    exact .ptr id i c g j b hb (by simpa using this)
   ·exact .unk _
  ·exact .unk _
 ·rename_i id off n g;split
  ·rename_i b hb;split
   ·rename_i j hj
    have:=(vb6 R 0 id j hj).2
    exact .sl id off n g j b hb (by simpa using this)
   ·exact .unk _
  ·exact .unk _
 ·rename_i h1 h2;refine .same x ?_;cases x<;>first | exact trivial | (exact (h1 _ _ _ _ rfl).elim) | (exact (h2 _ _ _ _ rfl).elim)
theorem dd8{x z:b7}{x':Value}(h:TC k H R x z)(hx:ja0 ρ (q9 H) F w x x'):TC k (q9 H) R x z:=by
 cases h with
 |unk=>exact .unk _
 |ptr id i c g j b hb hj =>
  obtain⟨hb1,hd1,hg1⟩:=B0 hb;obtain⟨ad,b2,e,m1,m2,m3,m4⟩:=ab6 (.val (.cell hx));obtain⟨n1,n2⟩:=wa4 m1 m2
  have:b2=b:=Qed (n1.symm.trans hb1)
  subst this;exact .ptr id i c g j b2 (by unfold blkAt;simp only[C5,m1,m2,hg1];simp) hj
 |sl id off n g j b hb hj =>
  obtain⟨hb1,hd1,hg1⟩:=B0 hb;obtain⟨ad,cap,b2,e,m1,m2,m3,_⟩:=Ra5 (.val (.cell hx));obtain⟨n1,n2⟩:=wa4 m1 m2
  have:b2=b:=Qed (n1.symm.trans hb1)
  subst this;exact .sl id off n g j b2 (by unfold blkAt;simp only[C5,m1,m2,hg1];simp) hj
 |same x h=>exact .same x h
theorem Ce5{x z:b7}{x':Value}(h:TV k H R x z)(hx:la1 ρ (q9 H) F w x x'):TV k (q9 H) R x z:=by
 cases h with
 |cell hb h =>
  cases hx with
  |cell hx=>exact .cell hb (dd8 h hx)
  |_=>cases hb
 |agg cs ds hl h =>
  obtain⟨vs,e,hl2,h2⟩:=Na8 (.val hx);refine .agg cs ds hl λi x z hx hz=>?_
  have hi:i<vs.size:=hl2 ▸ (Qea.1 hx).1;exact dd8 (h i x z hx hz) (h2 i x _ hx (Qej hi))
 |fn f cs ds hl h =>
  obtain⟨vs,e,hl2,h2⟩:=Ub7 (.val hx);refine .fn f cs ds hl λi x z hx hz=>?_
  have hi:i<vs.size:=hl2 ▸ (Qea.1 hx).1;exact dd8 (h i x z hx hz) (h2 i x _ hx (Qej hi))
 |tup l=>exact .tup l
theorem vf2{x z:b7}{x':Value}(h:TW k H R x z)(hx:G3 ρ (q9 H) F w x x'):TW k (q9 H) R x z:=by
 cases h with
 |val hn h =>
  cases hx with
  |val hx=>exact .val hn (Ce5 h hx)
  |tup cs vs hl h2=>exact absurd rfl (hn cs)
 |tup cs ds hl h =>
  obtain⟨vs,e,hl2,h2⟩:=Od0 hx;refine .tup cs ds hl λi x z hx hz=>?_
  have hi:i<vs.size:=hl2 ▸ (Qea.1 hx).1;exact Ce5 (h i x z hx hz) (h2 i x _ hx (Qej hi))
theorem Hd2{b:b8}(h:G8 b=false):ab3 k H R b=b:=by unfold ab3;rw[h];rfl
theorem Wb0(b:b8):(ab3 k H R b).et=b.et/\(ab3 k H R b).es=b.es/\(ab3 k H R b).dead=b.dead/\(ab3 k H R b).g=b.g/\(ab3 k H R b).elems.length=b.elems.length/\G8 (ab3 k H R b)=G8 b:=by
 unfold ab3;cases G8 b&&Nat.beq b.et 0
 ·exact⟨rfl,rfl,rfl,rfl,rfl,rfl⟩
 ·refine⟨rfl,rfl,rfl,rfl,by simp[p6],rfl⟩
section
variable(hR:TOk k R)(hb:Sa2 k H 0 R=some H2)
include hR hb
theorem Qd6{j:Nat}{c:b8}(hc:(p5 (ab3 k H R) H2)[j]?=some c):∃id b,R[j]?=some id/\(R[j]?).getD 0=id/\H[id]?=some b/\c=ab3 k H R (reG k j b):=by
 rw[p6,Qeg] at hc;cases h:H2[j]? with
 |none=>rw[h] at hc;cases hc
 |some c2 =>
  rw[h] at hc;injection hc with hc;obtain⟨id,b,h1,h2,h3,h4⟩:=Dc6 hb h;exact⟨id,b,h1,h2,h3,by rw[<- hc,h4]⟩
theorem af9{j id:Nat}{b:b8}(hj:R[j]?=some id)(hid:H[id]?=some b):(p5 (ab3 k H R) H2)[j]?=some (ab3 k H R (reG k j b)):=by
 obtain⟨_,hat⟩:=gc4 hb;obtain⟨b',h1,h2⟩:=hat j id hj
 have:b'=b:=Qed (h1.symm.trans hid)
 subst this;rw[Qey] at h2;rw[p6,Qeg,h2];rfl
theorem kd6(j:Nat)(b:b8):G8 (reG k j b)=G8 b:=by unfold G8;rw[Ab3]
theorem Hd3:Gd4 (λj=>ρ ((R[j]?).getD 0)) (q9 H2) (λj=>ρ ((R[j]?).getD 0)) (q9 (p5 (ab3 k H R) H2)):=λj b hb' hd=>by
 obtain⟨h1,h2⟩:=wa4 hb' hd;refine⟨b,sa9 ?_ h2,hd,Qee _,λ_=>⟨rfl,rfl,Qee _⟩⟩
 rw[p6,Qeg,h1];simp[Hd2 h2]
theorem Uf7{x z:b7}{x':Value}(h:TC k H R x z)(hx:ja0 ρ (q9 H) F w x x'):ja0 (λj=>ρ ((R[j]?).getD 0)) (q9 (p5 (ab3 k H R) H2)) F w z x' :=
 (qc0 (Vb9 hb) (dd8 h hx) hx).carry (Hd3 hR hb) (λ_ _ h=>h) (λ_ _ _=>rfl)
theorem Ef6{x z:b7}{x':Value}(h:TW k H R x z)(hx:G3 ρ (q9 H) F w x x'):G3 (λj=>ρ ((R[j]?).getD 0)) (q9 (p5 (ab3 k H R) H2)) F w z x' :=
 (Od9 (Vb9 hb) (vf2 h hx) hx).carry (Hd3 hR hb) (λ_ _ h=>h) (λ_ _ _=>rfl)
theorem ue8{x z:b7}{x':Value}(h:TC k H R x z)(hx:XC ρ H F w x x'):XW (λj=>ρ ((R[j]?).getD 0)) (p5 (ab3 k H R) H2) F w z x'/\(XC (λj=>ρ ((R[j]?).getD 0)) (p5 (ab3 k H R) H2) F w z x'):=by
 have main:XC (λj=>ρ ((R[j]?).getD 0)) (p5 (ab3 k H R) H2) F w z x':=by
  cases hx with
  |n hx=>exact .n (Uf7 hR hb h hx)
  |box id c g b hb1 hd he =>
   cases h with
   |unk=>exact .n (.unk _)
   |ptr _ _ _ _ j b2 hb2 hj =>
    have e:ρ id=(λj=>ρ ((R[j]?).getD 0)) j:=by simp[hj]
    rw[e];obtain⟨q1,q2,q3,q4,q5,q6⟩:=Wb0 (k:=k) (H:=H) (R:=R) (reG k j b);exact .box j c _ _ (af9 hR hb hj hb1) (by rw[q3,Sa3];exact hd) ⟨by rw[q2,Ab3];exact he.1,by rw[q1,xc4];exact he.2⟩
   |same _ hs=>exact hs.elim
  |map id c g b t hb1 hd he =>
   cases h with
   |unk=>exact .n (.unk _)
   |ptr _ _ _ _ j b2 hb2 hj =>
    have e:ρ id=(λj=>ρ ((R[j]?).getD 0)) j:=by simp[hj]
    rw[e];obtain⟨q1,q2,q3,q4,q5,q6⟩:=Wb0 (k:=k) (H:=H) (R:=R) (reG k j b);exact .map j c _ _ t (af9 hR hb hj hb1) (by rw[q3,Sa3];exact hd) ⟨by rw[q2,Ab3];exact he.1,by rw[q1,xc4];exact he.2⟩
   |same _ hs=>exact hs.elim
 exact⟨.c main,main⟩
theorem Mf7{x z:b7}{x':Value}(h:TW k H R x z)(hx:XW ρ H F w x x'):XW (λj=>ρ ((R[j]?).getD 0)) (p5 (ab3 k H R) H2) F w z x':=by
 cases hx with
 |w hx=>exact .w (Ef6 hR hb h hx)
 |c hx =>
  have hx0:=hx;cases hx with
  |n hx=>exact .w (Ef6 hR hb h (.val (.cell hx)))
  |box =>
   cases h with
   |val _ h=>cases h with
    |cell _ h=>exact (ue8 hR hb h hx0).1
  |map =>
   cases h with
   |val _ h=>cases h with
    |cell _ h=>exact (ue8 hR hb h hx0).1
theorem bf0(h:Ye3 P WB W' ρ H F w):Ye3 P WB W' (λj=>ρ ((R[j]?).getD 0)) (p5 (ab3 k H R) H2) F w:=by
 refine⟨λj c hc hs hd=>?_,λj j' c c' hc hc' hs hs' hd hd' hne=>?_⟩
 ·obtain⟨id,b,h1,h2,h3,h4⟩:=Qd6 hR hb hc;subst h4;obtain⟨q1,q2,q3,q4,q5,q6⟩:=Wb0 (k:=k) (H:=H) (R:=R) (reG k j b);rw[q6,kd6 hR hb] at hs;rw[q3,Sa3] at hd;obtain⟨k1,k2,k3,k4,k5⟩:=h.has id b h3 hs hd;simp only[h2];refine⟨k1,k2,k3,k4,?_⟩
  rcases k5 with⟨e,row,vs,t,m1,m2,m3,m4⟩|⟨t,K,El,fl,es,clk,m1,m2,m3,m4,m5,m6⟩
  ·refine .inl ⟨⟨by rw[q2,Ab3];exact e.1,by rw[q1,xc4];exact e.2⟩,row.map (Ue8 k H R),vs,t,?_,m2,by simpa using m3,λi z x' hz hx'=>?_⟩
   ·unfold ab3
    have:(G8 (reG k j b)&&Nat.beq (reG k j b).et 0)=true:=by rw[kd6 hR hb,hs,xc4,e.2];rfl
    rw[this];show p5 (p5 (Ue8 k H R)) (reG k j b).elems=_;rw[Ya6,m1,p6];simp[p6]
   ·rw[Qeg] at hz;cases hq:row[i]? with
    |none=>rw[hq] at hz;cases hz
    |some q =>
     rw[hq] at hz;injection hz with hz;subst hz;obtain⟨g1,g2⟩:=m4 i q x' hq hx';exact⟨g1,(ue8 hR hb (vf1 q) g2).2⟩
  ·have hnb : ab3 k H R (reG k j b) = reG k j b := by
    unfold ab3
    have:(G8 (reG k j b)&&Nat.beq (reG k j b).et 0)=false:=by
     rw[xc4,m1.2,Bool.and_eq_false_iff];exact .inr rfl
    rw[this]
   rw[hnb];exact .inr ⟨t,K,El,fl,es,clk,⟨by rw[Ab3];exact m1.1,by rw[xc4];exact m1.2⟩,m2,m3,m4,by rw[Ya6];exact m5,by rw[Ya6];exact m6⟩
 ·obtain⟨id,b,h1,h2,h3,h4⟩:=Qd6 hR hb hc;obtain⟨id',b',h1',h2',h3',h4'⟩:=Qd6 hR hb hc';subst h4 h4';obtain⟨_,_,q3,_,_,q6⟩:=Wb0 (k:=k) (H:=H) (R:=R) (reG k j b);obtain⟨_,_,q3',_,_,q6'⟩:=Wb0 (k:=k) (H:=H) (R:=R) (reG k j' b');rw[q6,kd6 hR hb] at hs;rw[q6',kd6 hR hb] at hs';rw[q3,Sa3] at hd;rw[q3',Sa3] at hd';simp only[h2,h2'];refine h.apart id id' b b' h3 h3' hs hs' hd hd' λe=>hne ?_
  subst e;obtain⟨a1,a2⟩:=Qea.1 h1;obtain⟨b1,b2⟩:=Qea.1 h1';exact (List.getElem_inj hR.nodup).1 (a2.trans b2.symm)
end
theorem Mf8{ds:List Deferred}(hR:TOk H0.length R)(hb:Sa2 H0.length H 0 R=some H2)(h:C2 P WB K J ρ0 H0 F0 w0 H ds w ρ F W' up):C2 P WB K J ρ0 H0 F0 w0 (p5 (ab3 H0.length H R) H2) ds w (λj=>ρ ((R[j]?).getD 0)) F W' up:=by
 have hAd:=Dc7 hR hb h.adv;have hat:∀(j:Nat) c,H2[j]?=some c->(p5 (ab3 H0.length H R) H2)[j]?=some (ab3 H0.length H R c):=λj c hc=>by rw[p6,Qeg,hc];rfl
 refine⟨h.sub,⟨hAd.ext,λid b hid=>?_,hAd.more,hAd.new,λid b' hb' hn=>?_⟩,?_,bf0 hR hb h.srel,h.kept,λj c hc hs hd=>?_,h.jot,h.marks⟩
 ·obtain⟨b',k1,k2,k3,k4⟩:=hAd.heap id b hid;obtain⟨q1,q2,q3,q4,q5,q6⟩:=Wb0 (k:=H0.length) (H:=H) (R:=R) b';exact⟨_,hat id b' k1,q3.trans k2,by rw[q4];exact k3,λhg=>by rw[q2,q5];exact k4 (q4 ▸ hg)⟩
 ·rw[p6,Qeg] at hb';cases hq:H2[id]? with
  |none=>rw[hq] at hb';cases hb'
  |some c =>
   rw[hq] at hb';injection hb' with hb';subst hb';obtain⟨_,_,_,q4,_,_⟩:=Wb0 (k:=H0.length) (H:=H) (R:=R) c;exact hAd.fresh id c hq λb hb1=>by rw[<- q4];exact hn b hb1
 ·refine (pc9 hR h.hrel (Vb9 hb)).pull (λi=>i) (λi b hb1 hd=>?_) (λ_ _ _ _ _ _ _ _ e=>e)
  obtain⟨h1,h2⟩:=wa4 hb1 hd;rw[p6,Qeg] at h1;cases hq:H2[i]? with
  |none=>rw[hq] at h1;cases h1
  |some c =>
   rw[hq] at h1;injection h1 with h1;have hsc:G8 c=false:=by
    obtain⟨_,_,_,_,_,q6⟩:=Wb0 (k:=H0.length) (H:=H) (R:=R) c;rw[<- q6,h1];exact h2
   rw[Hd2 hsc] at h1;subst h1;exact⟨sa9 hq hsc,rfl⟩
 ·obtain⟨id,b,h1,h2,h3,h4⟩:=Qd6 hR hb hc;subst h4;obtain⟨_,_,q3,_,_,q6⟩:=Wb0 (k:=H0.length) (H:=H) (R:=R) (reG H0.length j b);rw[q6,kd6 hR hb] at hs;rw[q3,Sa3] at hd;simp only[h2];exact h.far id b h3 hs hd
theorem I3.tidyM{s s':St}{ac:Act}{keep:List Nat}(h:I3 P WB K J n S rv DF ρ0 H0 F0 w0 s ac w)(he:(Ev.tidyM H0.length ⟨S9 keep s.a 0,s.H⟩).run=some s'):I3 P WB K J n S rv DF ρ0 H0 F0 w0 s' ac w:=by
 obtain⟨⟨ρ,F,W',up,hI⟩,hheld,hdf⟩:=h;unfold Ev.tidyM at he;cases ht:Cc1 H0.length s.H (S9 keep s.a 0) (List.range H0.length) with
 |mk a roots =>
 simp only[ht] at he;cases hb:Sa2 H0.length s.H 0 (Ed3 s.H roots roots) with
 |none=>simp[hb] at he
 |some H2 =>
 simp only[hb] at he;have he':some (⟨a,p5 (ab3 H0.length s.H (Ed3 s.H roots roots)) H2⟩:St)=some s':=he;injection he' with he';subst he';obtain⟨k1,_,k3,k4⟩:=hd5 (TOk.start _) ht;obtain⟨m1,m2⟩:=ee6 s.H roots roots k1;obtain⟨g1,g2⟩:=gc5 keep s.a 0;refine⟨⟨_,F,W',up,Mf8 m1 hb hI.core,⟨(k3.trans g1).trans hI.vals.1,λi x x' hx hx'=>?_⟩,hI.size⟩,hheld,hdf⟩
 have hi:i<(S9 keep s.a 0).length:=k3 ▸ (Qea.1 hx).1;have hk:=k4 i _ x (Qec hi) hx;refine Mf7 m1 hb (hk.le m2) ?_
 rcases g2 i _ (Qec hi) with e|e
 ·rw[e];exact .w (.unk _)
 ·exact hI.vals.2 i _ x' e hx'
end
section
variable{DS:Nat->Prop}{tm:Array Value}{ds:List Deferred}{Fe:Fence}{nn:Nat}
variable{W:Nat->Prop}{ρ0:Rho}{H0:List b8}{F0:Fz}{w0 w:World}
variable{tr:Nat}{E:Env}{ops:Array Oper}{M:List Nat}{ks:List (Nat×PI)}{s:St}{U T:Nat->St}
structure jc0(DS:Nat->Prop)(tm:Array Value)(ds:List Deferred)(W:Nat->Prop)(ρ0:Rho)(H0:List b8)(F0:Fz)(w0:World)(tr:Nat)(E:Env)(ops:Array Oper)(a0:List b7)(U T:Nat->St)(m:Nat)(listed:Array Bool)(ac:Act)(w:World):Prop where
 size:listed.size=ops.size
 closed:∀j,j<ops.size->Da6 listed j->∀i∈Ja5 (Oa1 ops j),Da6 listed i
 hm:m<=ops.size
 heavy:∀j,j<ops.size->O2 tr E.P ops j=2->(Da6 listed j↔j<m)
 inv:Vb6 DS tm ds W ρ0 H0 F0 w0 ⟨ib1 (T ops.size).a a0 (aa9 ops listed),na8 (T m).H (R9 tr E.P ops U listed)⟩ ac w
variable(hD:DC tr E.P ops M ks)(hT:Pd1 E ops ks s U T)(hin:∀j,j<ops.size->O2 tr E.P ops j=0->∀d,sa0 ops j=some d->d<s.a.length)
include hD
theorem Xa4{m:Nat}{listed:Array Bool}{ac:Act}(hR:jc0 DS tm ds W ρ0 H0 F0 w0 tr E ops s.a U T m listed ac w){j:Nat}(hj:j<ops.size)(hd:∀i∈Ja5 (Oa1 ops j),Da6 listed i){i:Nat}(hi:i<ops.size)(hb:y8 M i j=true):Da6 listed i :=
 Uc5 hD.rows (Da6 listed) (λj' o ho hx i hi=>by
  have hj':=(Qeh.1 ho).1
  have:o=Oa1 ops j':=Qed (ho.symm.trans (Ca4 hj'))
  subst this;exact hR.closed j' hj' hx i hi) j _ (Ca4 hj) hd i hi hb
include hT
theorem kd7 {m : Nat} {listed : Array Bool} {ac : Act} (hR : jc0 DS tm ds W ρ0 H0 F0 w0 tr E ops s.a U T m listed ac w) {j : Nat} (hj : j < ops.size) (hnx : ¬ Da6 listed j) (hd : ∀ i ∈ Ja5 (Oa1 ops j), Da6 listed i) :
  Agr (T j).a (ib1 (T ops.size).a s.a (aa9 ops listed)) (wc7 (xc7 ops j)++Ib1 (X4 tr E.P ops j)):=λt ht=>by
 have huniq:∀{i i':Nat},i<ops.size->i'<ops.size->sa0 ops i=some t->sa0 ops i'=some t->i=i':=λ{i i'} h1 h2 e1 e2=>((hD.slots h1 h2 e1).2).resolve_right λh=>h e2
 have hend:(∀i,j<=i->i<ops.size->sa0 ops i≠some t)->(T j).a[t]?=(T ops.size).a[t]?:=λh=>by
  have:=xc9 hD hT (t:=t) (ops.size-j) j (by omega) λi h1 h2 _=>h i h1 (by omega)
  rw[show j+(ops.size-j)=ops.size by omega] at this
  exact this.symm
 by_cases hw:∃i,i<ops.size/\sa0 ops i=some t
 ·obtain⟨i,hi,hdi⟩:=hw
  rcases (hD.slots hi hj hdi).1 ht with hb|⟨_,hna,hb⟩
  ·have hxi:=Xa4 hD hR hj hd hi hb;rw[jb0]
   ·refine hend λk h1 h2 he=>?_
    have:=huniq hi h2 hdi he
    have:=Pb9 hD hj hi hb
    omega
   ·rintro⟨k,h1,h2,h3⟩
    have:=huniq hi h1 hdi h2
    subst this;exact h3 hxi
  ·have hxi : ¬ Da6 listed i := fun hx => by
    rcases hb with hb|hb
    ·exact hnx (Xa4 hD hR hi (hR.closed i hi hx) hj hb)
    ·subst hb;exact hnx hx
   have hji:j<=i:=by
    rcases hb with hb|hb
    ·have:=Pb9 hD hi hj hb;omega
    ·omega
   have h1:=xc9 hD hT (t:=t) j 0 (by omega) λk _ h2 _ he=>by
    have:=huniq hi (by omega) hdi he
    omega
   have h2:=Pd5 hD hT (t:=t) ops.size 0 (by omega) λk _ h2 hk he=>by
    have:=huniq hi (by omega) hdi he
    subst this
    have:=id5 hk
    rw[hna] at this;cases this
   rw[Qey] at h1 h2;rw[h1,hT.t0,h2,hT.u0]
   rcases Qep t (T ops.size).a.length with hlt|hge
   ·rw[Ec2 ⟨i,hi,hdi,hxi⟩ hlt];rw[(hc5 hD hT ops.size (Qee _)).2] at hlt;rw[Qec hlt];rfl
   ·rw[Qer (by rw[<- (hc5 hD hT ops.size (Qee _)).2];exact hge),Qer (by rw[ib9];exact hge)]
 ·rw[jb0]
  ·exact hend λk _ h2 he=>hw ⟨k,h2,he⟩
  ·rintro⟨k,h1,h2,_⟩;exact hw ⟨k,h1,h2⟩
end
section
variable{DS:Nat->Prop}{tm:Array Value}{ds:List Deferred}{Fe:Fence}{nn:Nat}
variable{W:Nat->Prop}{ρ0:Rho}{H0:List b8}{F0:Fz}{w0 w:World}
variable{tr:Nat}{E:Env}{ops:Array Oper}{M:List Nat}{ks:List (Nat×PI)}{s:St}{U T:Nat->St}
variable(hD:DC tr E.P ops M ks)(hT:Pd1 E ops ks s U T)(hin:∀j,j<ops.size->O2 tr E.P ops j=0->∀d,sa0 ops j=some d->d<s.a.length)
variable(hpairs:mb0 E (T ops.size).a (ab5 ops.size M ks)=true)
variable(hF:FW Fe)(hDS:∀j d,j<ops.size->sa0 ops j=some d->DS d)
variable(hG0:GOk E F0 w0)(hcalls:∀f,g9 E.P E.G f (E.call f))
include hD
theorem jc0.next {m m' : Nat} {listed : Array Bool} {ac ac' : Act} {w' : World} (hR : jc0 DS tm ds W ρ0 H0 F0 w0 tr E ops s.a U T m listed ac w) {i : Nat} (hi : i < ops.size) (hdi : ∀ j ∈ Ja5 (Oa1 ops i), Da6 listed j)
  (hm':m'<=ops.size) (hheavy:∀j,j<ops.size->O2 tr E.P ops j=2->(Da6 (listed.setIfInBounds i true) j↔j<m'))
  {x:b7} (hx:∀d,sa0 ops i=some d->d<(T ops.size).a.length->(T ops.size).a[d]?=some x)
  (hI:Vb6 DS tm ds W ρ0 H0 F0 w0 ⟨putA (ib1 (T ops.size).a s.a (aa9 ops listed)) (sa0 ops i) x,na8 (T m').H (R9 tr E.P ops U (listed.setIfInBounds i true))⟩ ac' w') :
  jc0 DS tm ds W ρ0 H0 F0 w0 tr E ops s.a U T m' (listed.setIfInBounds i true) ac' w':=by
 refine⟨by simpa using hR.size,λj hj hx k hk=>?_,hm',hheavy,by rw[Le0 hD hR.size hi hx];exact hI⟩
 have his:i<listed.size:=by rw[hR.size];exact hi
 rcases (ab8 his).1 hx with h|h
 ·exact (ab8 his).2 (.inl (hR.closed j hj h k hk))
 ·subst h;exact (ab8 his).2 (.inl (hdi k hk))
omit hD in
theorem Vb6.puts{ac:Act}{j:Nat}(hDS:∀j d,j<ops.size->sa0 ops j=some d->DS d)(hj:j<ops.size)(hsm:∀t,¬ DS t->ac.tmps[t]?=tm[t]?)(v:Value)(t:Nat)(ht:¬ DS t):(ac.put (sa0 ops j) v).tmps[t]?=tm[t]?:=(Fc4 λe=>ht (hDS j t hj e)).trans (hsm t ht)
include hG0 hcalls hF hDS in
theorem Oc3 {ac : Act} {i : Nat} {a : List b7} {H H' : List b8} {b : Bool} {x : b7} {Q : Exit → Act → World → Prop} {K : Act → World → Prop} (hi : i < ops.size)
  (hI:Vb6 DS tm ds W ρ0 H0 F0 w0 ⟨a,H⟩ ac w) (hg:Yc2 E a (xc7 ops i)=some b)
  (h1:b=true->(evalOp E a H (X4 tr E.P ops i)).run=some (x,H')) (h2:b=false->x=.v (.tuple #[])/\H'=H)
  (hK:∀ac' w',Vb6 DS tm ds W ρ0 H0 F0 w0 ⟨putA a (sa0 ops i) x,H'⟩ ac' w'->K ac' w'):wpOpIn Fe nn E.P ops Q i K ac w:=by
 obtain⟨hd,hsz,hsm,ρ,F,hAdv,hH,hA⟩:=hI;have hw:=ce4 (hD.guard i hi) hA hg;unfold wpOpIn;simp only[Ca4 hi,hw];cases b with
 |true =>
  rw[if_pos rfl];refine (Fd7 (ac:={ ac with defers:=[] }) tr hA hH (hG0.adv hAdv) hcalls (h1 rfl)).inAny hF nn _ _ λx' w' hp=>?_
  obtain⟨ρ',F',a1,a2,a3⟩:=hp;exact hK _ _ ⟨(E6 _ _).trans hd,(ya7 _ _).trans hsz,Vb6.puts hDS hi hsm _,ρ',F',hAdv.trans a1,a2,(hA.adv a1).putA _ a3⟩
 |false =>
  rw[if_neg (by simp)]
  obtain⟨e1,e2⟩:=h2 rfl;subst e1 e2;exact⟨λf _=>hF.fn f,hK _ _ ⟨(E6 _ _).trans hd,(ya7 _ _).trans hsz,Vb6.puts hDS hi hsm _,ρ,F,hAdv,hH,hA.putA _ (.ofv _)⟩⟩
include hT hin hpairs hG0 hcalls hF hDS
theorem ee7 {m : Nat} {listed : Array Bool} {ac : Act} (hR : jc0 DS tm ds W ρ0 H0 F0 w0 tr E ops s.a U T m listed ac w) {i : Nat} (hi : i < ops.size) (hk : O2 tr E.P ops i = 1) (hnx : ¬ Da6 listed i) (hdi : ∀ j ∈ Ja5 (Oa1 ops i), Da6 listed j)
  {Q:Exit->Act->World->Prop} {K:Act->World->Prop} (hK:∀ac' w',jc0 DS tm ds W ρ0 H0 F0 w0 tr E ops s.a U T m (listed.setIfInBounds i true) ac' w'->K ac' w'):wpOpIn Fe nn E.P ops Q i K ac w:=by
 obtain⟨b,x,g1,g2,g3,g4⟩:=dd6 hD hT hi hk;have hread:=kd7 hD hT hR hi hnx hdi;have hne:O2 tr E.P ops i≠0:=by omega
 refine Oc3 hD hF hDS hG0 hcalls (H':=na8 (T m).H (R9 tr E.P ops U listed)) hi hR.inv ((xc6 hread.left).symm.trans g1) (λhb=>?_) (λhb=>⟨g4 hb,rfl⟩) λac' w' hI'=>hK ac' w' ?_
 ·have he:=g3 hb;rw[Dc8 _ hread.right] at he;refine (Dc9 (ce6 hk) he).2 _ λid hid=>?_
  -- the block that is looked at stands in the heap at hand
  have hlive:∃b',(na8 (T m).H (R9 tr E.P ops U listed))[id]?=some b'/\b'.dead=false:=by
   obtain⟨hd0,_,_,ρ,F,hAdv,hH,hA⟩:=hR.inv;have harg:∀(y:Arg),dd1 y=true->id∈ta5 (d7 E (ib1 (T ops.size).a s.a (aa9 ops listed)) y)->∃b',(na8 (T m).H (R9 tr E.P ops U listed))[id]?=some b'/\b'.dead=false:=λy hy hm=>by
    cases y with
    |c z =>
     exfalso;have hm':id∈ta5 z:=hm;cases z<;>first | (cases hm';done) | (cases hy;done)
    |g n =>
     exfalso;have hm':id∈ta5 (.tptr (p5 .v (E.G n))):=hm;cases hm'
    |t n =>
     rw[vb5] at hm;cases hn:(ib1 (T ops.size).a s.a (aa9 ops listed))[n]? with
     |none=>rw[hn] at hm;cases hm
     |some u =>
     rw[hn] at hm;simp only[Option.getD_some] at hm;have hlt:n<ac.tmps.size:=hA.1 ▸ (Qea.1 hn).1;have hW:=hA.2 n u _ hn (Qej hlt);cases u with
     |ptr id' i c g =>
      have:id=id':=by simpa [ta5] using hm
      subst this;obtain⟨_,b',_,h1,h2,_⟩:=ab6 hW;exact⟨b',h1,h2⟩
     |sl id' off n g =>
      have:id=id':=by simpa [ta5] using hm
      subst this;obtain⟨_,_,b',_,h1,h2,_⟩:=Ra5 hW;exact⟨b',h1,h2⟩
     |_=>cases hm
   have hbare:=hD.bare hi
   revert hbare hid
   generalize X4 tr E.P ops i=q;intro hid hbare;cases q with
   |load ks n agg y=>exact harg y hbare hid
   |idxS es y z=>exact harg y hbare hid
   |slice es y lo hi=>exact harg y hbare hid
   |_=>cases hid
  obtain⟨b',hb1,hb2⟩:=hlive;obtain⟨hnD,hb3⟩:=se6 hb1 hb2;have huse:id∈Xa1 E (T ops.size).a (X4 tr E.P ops i):=by
   rw[<- We5 hD hT hi,Ec9 hread.right];exact hid
  -- nobody between touches it
  have hbetween:∀j,j<ops.size->O2 tr E.P ops j=2->y8 M i j=false->y8 M j i=false->id∉W8 E (T ops.size).a (X4 tr E.P ops j):=λj hj hkj h1 h2 =>
   id6 hpairs (hD.pair hj hi hk hkj h2 h1) id huse
  have hlike:U8 (T i).H (T m).H id:=by
   rcases Qep i m with him|him
   ·have := te4 hD hT hin (id := id) (m - i) i (by have := hR.hm; omega) fun j h1 h2 hkj => by
     have hj:j<ops.size:=by have:=hR.hm;omega
     have hxj:=(hR.heavy j hj hkj).2 (by omega)
     refine hbetween j hj hkj ?_ ?_
     ·cases hc:y8 M i j with
      |false=>rfl
      |true=>exact absurd (Xa4 hD hR hj (hR.closed j hj hxj) hi hc) hnx
     ·cases hc:y8 M j i with
      |false=>rfl
      |true=>have:=Pb9 hD hi hj hc;omega
    rwa [show i+(m-i)=m by omega] at this
   ·have := te4 hD hT hin (id := id) (i - m) m (by omega) fun j h1 h2 hkj => by
     have hj:j<ops.size:=by omega
     have hxj:¬ Da6 listed j:=λh=>by have:=(hR.heavy j hj hkj).1 h;omega
     refine hbetween j hj hkj ?_ ?_
     ·cases hc:y8 M i j with
      |false=>rfl
      |true=>have:=Pb9 hD hj hi hc;omega
     ·cases hc:y8 M j i with
      |false=>rfl
      |true=>exact absurd (Xa4 hD hR hi hdi hj hc) hxj
    rw[show m+(i-m)=i by omega] at this
    intro b0 hb0;obtain⟨b2,h3,h4⟩:=this b' hb3
    have:b2=b0:=Qed (h3.symm.trans hb0)
    subst this;exact⟨b',hb3,h4.1.symm,h4.2.1.symm,h4.2.2.1.symm,h4.2.2.2.1.symm,h4.2.2.2.2.symm⟩
  refine hlike.trans λb0 hb0=>⟨b0,?_,.refl b0⟩
  rw[V0 hnD];exact hb0
 ·refine jc0.next hD hR hi hdi hR.hm (λj hj hkj=>?_) (x:=x) (λd hd hlt=>?_) ?_
  ·rw[ab8 (hR.size ▸ hi)];rw[<- hR.heavy j hj hkj];exact⟨λh=>h.resolve_right λe=>by subst e;omega,.inl⟩
  ·rw[Ef2 hD hT hi hd,g2,hd];refine dd5 ?_;rw[(hc5 hD hT i (by omega)).2,<- (hc5 hD hT ops.size (Qee _)).2]
   exact hlt
  ·rw[Gd5 hR.size hi hne];exact hI'
omit hpairs in
theorem ee8 {m : Nat} {listed : Array Bool} {ac : Act} (hR : jc0 DS tm ds W ρ0 H0 F0 w0 tr E ops s.a U T m listed ac w) {i : Nat} (hi : i < ops.size) (hk : O2 tr E.P ops i = 2) (hnx : ¬ Da6 listed i) (hdi : ∀ j ∈ Ja5 (Oa1 ops i), Da6 listed j)
  {Q:Exit->Act->World->Prop} {K:Act->World->Prop} (hK:∀ac' w',jc0 DS tm ds W ρ0 H0 F0 w0 tr E ops s.a U T (i+1) (listed.setIfInBounds i true) ac' w'->K ac' w'):wpOpIn Fe nn E.P ops Q i K ac w:=by
 obtain⟨b,x,g1,g2,g3,g4⟩:=Pd8 hD hT hin hi hk;have hread:=kd7 hD hT hR hi hnx hdi;have hne:O2 tr E.P ops i≠0:=by omega
 have hmi:m<=i:=by
  rcases Qep i m with h|h
  ·exact absurd ((hR.heavy i hi hk).2 h) hnx
  ·exact h
 have hno:∀j,m<=j->j<i->O2 tr E.P ops j≠2:=λj h1 h2 hkj=>by
  have hj:j<ops.size:=by omega
  have:=(hR.heavy j hj hkj).1 (Xa4 hD hR hi hdi hj (hD.chain h2 hi hkj hk).1)
  omega
 have hsame:(T m).H=(T i).H:=by
  have:=te3 hD hT (i-m) m (by omega) λj h1 h2=>hno j h1 (by omega)
  rw[show m+(i-m)=i by omega] at this
  exact this.symm
 have hfin:∀{H':List b8} {ac':Act} {w':World},H'=na8 (T (i+1)).H (R9 tr E.P ops U listed)->Vb6 DS tm ds W ρ0 H0 F0 w0 ⟨putA (ib1 (T ops.size).a s.a (aa9 ops listed)) (sa0 ops i) x,H'⟩ ac' w'->K ac' w':=λ{H' ac' w'} e hI'=>by
  refine hK ac' w' (jc0.next hD hR hi hdi (by omega) (λj hj hkj=>?_) (x:=x) (λd hd hlt=>?_) ?_)
  ·rw[ab8 (hR.size ▸ hi)];constructor
   ·rintro (h|h)
    ·have:=(hR.heavy j hj hkj).1 h;omega
    ·omega
   ·intro h;by_cases e:j=i
    ·exact .inr e
    ·refine .inl ((hR.heavy j hj hkj).2 ?_)
     rcases Qep j m with h'|h'
     ·exact h'
     ·exact absurd hkj (hno j h' (by omega))
  ·rw[Ef2 hD hT hi hd,g2,hd];refine dd5 ?_;rw[(hc5 hD hT i (by omega)).2,<- (hc5 hD hT ops.size (Qee _)).2]
   exact hlt
  ·rw[Gd5 hR.size hi hne,<- e];exact hI'
 cases b with
 |false =>
  obtain⟨h1,h2⟩:=g4 rfl;exact Oc3 hD hF hDS hG0 hcalls (x:=x) (H':=na8 (T m).H (R9 tr E.P ops U listed)) hi hR.inv ((xc6 hread.left).symm.trans g1) (λh=>by cases h) (λ_=>⟨h1,rfl⟩) λac' w' hI'=>hfin (by rw[h2,hsame]) hI'
 |true =>
  obtain⟨hid,H',h5,h6,h7⟩:=g3 rfl;rw[Dc8 _ hread.right] at h6;have hall:∀id∈hid,id<(T i).H.length:=λid hid'=>by
   obtain⟨b',k1,k2,k3,rfl⟩:=(h5 id).1 hid';exact We6 hD hT hin hi hk k1 k2 k3
  have hsub:∀id,R9 tr E.P ops U listed id->id∈hid:=λid ⟨b',k1,k2,k3,k4⟩=>by
   refine (h5 id).2 ⟨b',k1,k2,?_,k4⟩;cases hc:y8 M b' i with
   |false=>rfl
   |true=>exact absurd (Xa4 hD hR hi hdi k1 hc) k3
  have hMono:L5 (·∈hid) (na8 (T i).H (·∈hid)) (na8 (T i).H (R9 tr E.P ops U listed)) (na8 (T i).H (·∈hid)) (na8 (T i).H (R9 tr E.P ops U listed)):=by
   refine⟨by rw[yb8,yb8],λid hn=>?_,λid b hm hb=>?_,λ_ _=>rfl,λ_ _=>rfl,λid h=>by rw[yb8];exact hall id h⟩
   ·rw[V0 (D:=(·∈hid)) hn,V0 λh=>hn (hsub id h)]
   ·rw[ya5 (D:=(·∈hid)) hm] at hb;simp only[Qeq] at hb;obtain⟨c,_,rfl⟩:=hb;rfl
  obtain⟨H2',h8,h9⟩:=hMono.evalOp (Ec5 hk) h6;refine Oc3 hD hF hDS hG0 hcalls (x:=x) (H':=H2') hi hR.inv ((xc6 hread.left).symm.trans g1) (λ_=>by rw[hsame];exact h8) (λh=>by cases h) λac' w' hI'=>hfin ?_ hI'
  refine List.ext_getElem? λid=>?_
  rw[h7];by_cases hm:id∈hid
  ·rw[h9.at2 id hm];have hr:=Nc4 (H0:=(T i).H) (H:=H') hm (hall id hm) (h9.bound id hm);by_cases hd:R9 tr E.P ops U listed id
   ·rw[ya5 hd,ya5 hd,hr]
   ·rw[V0 hd,V0 hd,hr]
  ·rw[<- h9.same id hm,V0 λh=>hm (hsub id h),id1 hm]
end
section
variable{DS:Nat->Prop}{tm:Array Value}{ds:List Deferred}{Fe:Fence}{nn:Nat}
variable{W:Nat->Prop}{ρ0:Rho}{H0:List b8}{F0:Fz}{w0 w:World}
variable{tr:Nat}{E:Env}{ops:Array Oper}{M:List Nat}{ks:List (Nat×PI)}{s:St}{U T:Nat->St}
variable(hD:DC tr E.P ops M ks)(hT:Pd1 E ops ks s U T)(hin:∀j,j<ops.size->O2 tr E.P ops j=0->∀d,sa0 ops j=some d->d<s.a.length)(hlen:H0.length<=s.H.length)
variable(hF:FW Fe)(hDS:∀j d,j<ops.size->sa0 ops j=some d->DS d)
include hD hT hin hlen
include hF hDS in
theorem ee9 (hG0 : GOk E F0 w0) (hcalls : ∀ f, g9 E.P E.G f (E.call f)) {m : Nat} {listed : Array Bool} {ac : Act} (hR : jc0 DS tm ds W ρ0 H0 F0 w0 tr E ops s.a U T m listed ac w) {i : Nat} (hi : i < ops.size) (hk : O2 tr E.P ops i = 0) (hnx : ¬ Da6 listed i) (hdi : ∀ j ∈ Ja5 (Oa1 ops i), Da6 listed j)
  {Q:Exit->Act->World->Prop} {K:Act->World->Prop} (hK:∀ac' w',jc0 DS tm ds W ρ0 H0 F0 w0 tr E ops s.a U T m (listed.setIfInBounds i true) ac' w'->K ac' w'):wpOpIn Fe nn E.P ops Q i K ac w:=by
 obtain⟨d,hgn,hd,hevA,hU⟩:=Ib5 hD hT hi hk;generalize hnb:xd4 (X4 tr E.P ops i)=NB at *
 have nbd:NB.dead=false:=hnb ▸ Ke8 _;have nbg:NB.g=0:=hnb ▸ Kf9 _;obtain⟨hd0,hsz,hsm,ρ,F,hAdv,hH,hA⟩:=hR.inv
 simp only at hAdv hH hA
 generalize hHS:na8 (T m).H (R9 tr E.P ops U listed)=HS at hAdv hH hA;have hHSlen:HS.length=(T m).H.length:=by rw[<- hHS,yb8]
 have his:i<listed.size:=by rw[hR.size];exact hi
 -- the block stands in the text's heap,asq it was made
 have hblk:(T m).H[(U i).H.length]?=some (NB):=by
  have h1:=Pd9 hD hT hin hi hk m hR.hm λh h1 h2=>by
   cases hc:y8 M i h with
   |false=>rfl
   |true =>
    have hh:h<ops.size:=by have:=hR.hm;omega
    exact absurd (Xa4 hD hR hh (hR.closed h hh ((hR.heavy h hh h2).2 h1)) hi hc) hnx
  rw[h1,te2 hD hT hi hk,hnb]
 have hidlt:(U i).H.length<HS.length:=by rw[hHSlen];exact (Qea.1 hblk).1
 have hidge:s.H.length<=(U i).H.length:=(te1 hD hT (by omega)).1
 have hdead:R9 tr E.P ops U listed (U i).H.length:=⟨i,hi,hk,hnx,rfl⟩;have hinj:∀b,b<ops.size->O2 tr E.P ops b=0->(U i).H.length=(U b).H.length->b=i:=λb hb hkb he=>by
  rcases Nat.lt_trichotomy b i with h|h|h
  ·have:=Tf5 hD hT h (by omega) hkb;omega
  ·exact h
  ·have:=Tf5 hD hT h (by omega) hk;omega
 have hdead':∀id,R9 tr E.P ops U (listed.setIfInBounds i true) id↔R9 tr E.P ops U listed id/\id≠(U i).H.length:=λid=>by
  constructor
  ·rintro⟨b,h1,h2,h3,h4⟩;refine⟨⟨b,h1,h2,λh=>h3 ((ab8 his).2 (.inl h)),h4⟩,λe=>h3 ((ab8 his).2 (.inr ?_))⟩
   exact hinj b h1 h2 (e.symm.trans h4)
  ·rintro⟨⟨b,h1,h2,h3,h4⟩,h5⟩;refine⟨b,h1,h2,λh=>?_,h4⟩
   rcases (ab8 his).1 h with h|h
   ·exact h3 h
   ·subst h;exact h5 h4
 generalize hHS':na8 (T m).H (R9 tr E.P ops U (listed.setIfInBounds i true))=HS';have hoff:∀id,id≠(U i).H.length->HS'[id]?=HS[id]?:=λid hne=>by
  rw[<- hHS',<- hHS];by_cases h:R9 tr E.P ops U listed id
  ·rw[ya5 h,ya5 ((hdead' id).2 ⟨h,hne⟩)]
  ·rw[V0 h,V0 λh'=>h ((hdead' id).1 h').1]
 have hon:HS'[(U i).H.length]?=some (NB):=by
  rw[<- hHS',V0 λh'=>((hdead' _).1 h').2 rfl]
  exact hblk
 have hHSdead:∀b,HS[(U i).H.length]?=some b->b.dead=true:=λb hb=>by
  rw[<- hHS,ya5 hdead] at hb;simp only[Qeq] at hb;obtain⟨c,_,rfl⟩:=hb;rfl
 -- the operation
 have hev:=hevA (ib1 (T ops.size).a s.a (aa9 ops listed)) HS;unfold wpOpIn;have hw:Region.wanted (Oa1 ops i) (yielded ops ac.tmps)=true:=by simp[Region.wanted,hgn]
 simp only[Ca4 hi,hw];rw[if_pos trivial];refine (Fd7 (ac:={ ac with defers:=[] }) (ops:=ops) tr hA hH (hG0.adv hAdv) hcalls hev).inAny hF nn _ _ (λx' w' hp=>hK _ _ (jc0.next hD hR hi hdi hR.hm (λj hj hkj=>?_) (x:=Yc3 (X4 tr E.P ops i) (U i).H.length) (λd' hd' hlt=>?_) ?_))
 ·rw[ab8 his,<- hR.heavy j hj hkj];exact⟨λh=>h.resolve_right λe=>by subst e;omega,.inl⟩
 ·refine Pd6 hD hT hi hk hd' ?_ (Qee _);rw[<- (hc5 hD hT ops.size (Qee _)).2];exact hlt
 ·obtain⟨ρ',F',a1,a2,a3⟩:=hp;rw[hHS'];have hadv:=hAdv.trans a1
  let ρ2:Rho:=λid=>if id=(U i).H.length then ρ' HS.length else ρ' id
  have hρ2:∀id,id≠(U i).H.length->ρ2 id=ρ' id:=λid h=>if_neg h
  have hρ2':ρ2 (U i).H.length=ρ' HS.length:=if_pos rfl;have hold:∀id b,HS'[id]?=some b->id≠(U i).H.length->(HS++[NB])[id]?=some b:=λid b hb hne=>by
   rw[hoff id hne] at hb;rw[Qef (Qea.1 hb).1];exact hb
  have hN:(HS++[NB])[HS.length]?=some (NB):=by simp
  refine⟨(E6 _ _).trans hd0,(ya7 _ _).trans hsz,Vb6.puts hDS hi hsm _,ρ2,F',⟨hadv.ext,λid b hb=>?_,hadv.more,hadv.new,λid b' hb' hn=>?_⟩,?_,?_⟩
  ·have hidH:id<s.H.length:=by have:=(Qea.1 hb).1;omega
   have hne:id≠(U i).H.length:=by omega
   obtain⟨b',h1,h2⟩:=hadv.heap id b hb;rw[Qef (by omega)] at h1
   refine⟨b',by rw[hoff id hne];exact h1,?_⟩
   rw[hρ2 id hne];exact h2
  ·by_cases he:id=(U i).H.length
   ·subst he;rw[hρ2'];exact hadv.fresh HS.length _ hN λb hb=>by have:=(Qea.1 hb).1;omega
   ·rw[hρ2 id he];exact hadv.fresh id b' (hold id b' hb' he) hn
  ·refine a2.pull (λid=>if id=(U i).H.length then HS.length else id) (λid b hb hdd=>?_) λid id' b b' hb hdd hb' hdd' he=>?_
   ·by_cases e:id=(U i).H.length
    ·subst e;simp only[if_true]
     have:b=NB:=Qed (hb.symm.trans hon)
     subst this;exact⟨hN,hρ2'⟩
    ·simp only[if_neg e];exact⟨hold id b hb e,hρ2 id e⟩
   ·have hlt : ∀ id b, HS'[id]? = some b → id ≠ (U i).H.length → id < HS.length := fun id b hb hne => by
     rw[hoff id hne] at hb;exact (Qea.1 hb).1
    by_cases e:id=(U i).H.length
    ·by_cases e':id'=(U i).H.length
     ·rw[e,e']
     ·simp only[if_pos e,if_neg e'] at he
      have:=hlt id' b' hb' e'
      omega
    ·by_cases e':id'=(U i).H.length
     ·simp only[if_neg e,if_pos e'] at he
      have:=hlt id b hb e
      omega
     ·simpa only[if_neg e,if_neg e'] using he
  ·have hA2 : Ca3 ρ2 HS' F' w' (ib1 (T ops.size).a s.a (aa9 ops listed)) ac.tmps := by
    refine hA.carry (λid b hb hdd=>?_) a1.more a1.ext.cells
    have hne:id≠(U i).H.length:=λe=>by
     subst e;rw[hHSdead b hb] at hdd;cases hdd
    obtain⟨b',h1,h2,h3,h4⟩:=a1.heap id b hb;rw[Qef (Qea.1 hb).1] at h1;refine⟨b',by rw[hoff id hne];exact h1,h2.trans hdd,h3,λhg=>?_⟩
    rw[hρ2 id hne];exact h4 hg
   have hW:G3 ρ2 HS' F' w' (Yc3 (X4 tr E.P ops i) (U i).H.length) x':=by
    have hV:Yc3 (X4 tr E.P ops i) HS.length=.ptr HS.length 0 0 0/\Yc3 (X4 tr E.P ops i) (U i).H.length=.ptr (U i).H.length 0 0 0\/Yc3 (X4 tr E.P ops i) HS.length=.sl HS.length 0 0 0/\Yc3 (X4 tr E.P ops i) (U i).H.length=.sl (U i).H.length 0 0 0:=by
     cases X4 tr E.P ops i<;>first | exact .inl ⟨rfl,rfl⟩ | exact .inr ⟨rfl,rfl⟩
    rcases hV with⟨v1,v2⟩|⟨v1,v2⟩
    ·rw[v1] at a3;rw[v2];obtain⟨ad,b,e,h1,h2,h3,h4⟩:=ab6 a3
     have:b=NB:=Qed (h1.symm.trans hN)
     subst this;rw[e];refine .val (.cell (.ptr _ 0 0 0 ad _ hon nbd (Nat.zero_le _) λhg=>?_))
     rw[hρ2'];exact h4 hg
    ·rw[v1] at a3;rw[v2];obtain⟨ad,cap,b,e,h1,h2,h3,h4,h5,h6,h7⟩:=Ra5 a3
     have:b=NB:=Qed (h1.symm.trans hN)
     subst this;rw[e];refine .val (.cell (.sl _ 0 0 0 ad cap _ hon nbd (Nat.zero_le _) h4 h5 h6 λhg=>?_))
     rw[hρ2'];exact h7 hg
   exact hA2.putA (sa0 ops i) hW
omit hin in
theorem fe0 {ac : Act} (hI : Vb6 DS tm ds W ρ0 H0 F0 w0 s ac w) :
  jc0 DS tm ds W ρ0 H0 F0 w0 tr E ops s.a U T 0 (Array.replicate ops.size false) ac { w with drawn:=w.drawn+1 }:=by
 have hnx:∀j,j<ops.size->¬ Da6 (Array.replicate ops.size false) j:=λj hj h=>by
  unfold Da6 at h;simp[Array.getD,hj] at h
 obtain⟨hd0,hsz,hsm,ρ,F,hAdv,hH,hA⟩:=hI;have hdead:∀id,R9 tr E.P ops U (Array.replicate ops.size false) id->s.H.length<=id:=λid ⟨b,h1,_,_,h4⟩=>by
  have:=(te1 hD hT (j:=b) (by omega)).1
  omega
 have hlow:∀id,id<s.H.length->(na8 (T 0).H (R9 tr E.P ops U (Array.replicate ops.size false)))[id]?=s.H[id]?:=λid hid=>by
  rw[V0 λh=>by have:=hdead id h;omega,hT.t0]
  exact (te1 hD hT (Qee _)).2 id hid
 have hhigh:∀id b,(na8 (T 0).H (R9 tr E.P ops U (Array.replicate ops.size false)))[id]?=some b->s.H.length<=id->b.dead=true:=λid b hb hge=>by
  have hlt:id<(T 0).H.length:=by
   have:=(Qea.1 hb).1
   rwa [yb8] at this
  rw[hT.t0] at hlt;obtain⟨j,h1,h2,h3⟩:=We4 hD hT ops.size (Qee _) id hge hlt;rw[ya5 (show R9 tr E.P ops U (Array.replicate ops.size false) id from ⟨j,h1,h2,hnx j h1,h3⟩)] at hb
  simp only[Qeq] at hb;obtain⟨c,_,rfl⟩:=hb;rfl
 have hH':C6 W ρ s.H F { w with drawn:=w.drawn+1 }:=hH.same rfl
 have hAdv':Adv W ρ0 H0 F0 w0 ρ s.H F { w with drawn:=w.drawn+1 }:=hAdv.trans (.same rfl rfl rfl rfl (Nat.le_succ _))
 let ρ1:Rho:=λid=>if id<s.H.length then ρ id else ⟨w.heap.size,0,0⟩
 have hρ1:∀id,id<s.H.length->ρ1 id=ρ id:=λid h=>if_pos h
 have hlive:∀id b,(na8 (T 0).H (R9 tr E.P ops U (Array.replicate ops.size false)))[id]?=some b->b.dead=false->id<s.H.length:=λid b hb hd=>by
  rcases Qep id s.H.length with h|h
  ·exact h
  ·rw[hhigh id b hb h] at hd;cases hd
 refine⟨by simp,λj hj hx=>absurd hx (hnx j hj),Nat.zero_le _,λj hj _=>⟨λh=>absurd h (hnx j hj),λh=>by omega⟩,hd0,hsz,hsm,ρ1,F,⟨hAdv'.ext,λid b hb=>?_,hAdv'.more,hAdv'.new,λid b hb hn=>?_⟩,?_,?_⟩
 ·have hid:id<s.H.length:=by have:=(Qea.1 hb).1;omega
  obtain⟨b',h1,h2⟩:=hAdv'.heap id b hb;refine⟨b',(hlow id hid).trans h1,?_⟩;rw[hρ1 id hid];exact h2
 ·simp only at hb
  by_cases hid:id<s.H.length
  ·rw[hlow id hid] at hb;rw[hρ1 id hid];exact hAdv'.fresh id b hb hn
  ·show W (if id<s.H.length then ρ id else ⟨w.heap.size,0,0⟩).blk
   rw[if_neg hid];exact hH.new _ (Qee _)
 ·refine hH'.pull (λid=>id) (λid b hb hd=>?_) λ_ _ _ _ _ _ _ _ h=>h
  have hid:=hlive id b hb hd;rw[<- hlow id hid];exact⟨hb,hρ1 id hid⟩
 ·have hcarry : Gd4 ρ s.H ρ1 (na8 (T 0).H (R9 tr E.P ops U (Array.replicate ops.size false))) := fun id b hb hd => by
   have hid:=(Qea.1 hb).1;exact⟨b,(hlow id hid).trans hb,hd,Qee _,λ_=>⟨hρ1 id hid,rfl,Qee _⟩⟩
  refine⟨by rw[ib9,(hc5 hD hT ops.size (Qee _)).2];exact hA.1,λt x x' hx hx'=>?_⟩
  simp only at hx
  by_cases ht:aa9 ops (Array.replicate ops.size false) t
  ·have hlt : t < (T ops.size).a.length := by
    have:=(Qea.1 hx).1
    rwa [ib9] at this
   rw[Ec2 ht hlt] at hx;injection hx with hx;rw[(hc5 hD hT ops.size (Qee _)).2] at hlt;rw[Qec hlt,Option.getD_some] at hx;exact G3.carry (w:=w) (w':={ w with drawn:=w.drawn+1 }) hcarry (λ_ _ h=>h) (λ_ _ _=>rfl) (hA.2 t x x' (by rw[<- hx];exact Qec hlt) hx')
  ·rw[jb0 ht] at hx;have hno:∀j,j<ops.size->sa0 ops j≠some t:=λj hj he=>ht ⟨j,hj,he,hnx j hj⟩
   have h1:=xc9 hD hT (t:=t) ops.size 0 (by omega) λj _ h2 _=>hno j (by omega)
   have h2:=Pd5 hD hT (t:=t) ops.size 0 (by omega) λj _ h2 _=>hno j (by omega)
   rw[Qey] at h1 h2;rw[h1,hT.t0,h2,hT.u0] at hx;exact G3.carry (w:=w) (w':={ w with drawn:=w.drawn+1 }) hcarry (λ_ _ h=>h) (λ_ _ _=>rfl) (hA.2 t x x' hx hx')
omit hin hlen in
theorem Hd4{m:Nat}{listed:Array Bool}{ac:Act}(hR:jc0 DS tm ds W ρ0 H0 F0 w0 tr E ops s.a U T m listed ac w)(hall:∀j,j<ops.size->Da6 listed j):Vb6 DS tm ds W ρ0 H0 F0 w0 (T ops.size) ac w:=by
 have h1:ib1 (T ops.size).a s.a (aa9 ops listed)=(T ops.size).a:=se7 λt ⟨j,h1,_,h3⟩=>h3 (hall j h1)
 have h2:na8 (T m).H (R9 tr E.P ops U listed)=(T ops.size).H:=by
  rw[se8 λid ⟨b,h1,_,h3,_⟩=>h3 (hall b h1)]
  have:=te3 hD hT (ops.size-m) m (by have:=hR.hm;omega) λj h3 h4 hk=>by
   have hj:j<ops.size:=by have:=hR.hm;omega
   have:=(hR.heavy j hj hk).1 (hall j hj)
   omega
  rw[show m+(ops.size-m)=ops.size by have:=hR.hm;omega] at this
  exact this.symm
 have h3:=hR.inv;rw[h1,h2] at h3;exact h3
variable(hpairs:mb0 E (T ops.size).a (ab5 ops.size M ks)=true)(hG0:GOk E F0 w0)(hcalls:∀f,g9 E.P E.G f (E.call f))
include hpairs hG0 hcalls hF hDS
theorem qc8{Q:Exit->Act->World->Prop}(hQ:∀ac' w',Vb6 DS tm ds W ρ0 H0 F0 w0 (T ops.size) ac' w'->Q .normal ac' w'):∀(fuel m:Nat) (listed:Array Bool) (ac:Act) (w:World),jc0 DS tm ds W ρ0 H0 F0 w0 tr E ops s.a U T m listed ac w->yb9 listed<=fuel->wpAnyIn Fe nn E.P .any ops Q fuel listed ac w
 |0,m,listed,ac,w,hR,hc=>by
  have hall:∀j,Da6 listed j:=jd0 (by omega)
  refine⟨?_,hQ _ _ (Hd4 hD hT hR λj _=>hall j)⟩
  rw[List.eq_nil_iff_forall_not_mem];intro i hi;exact (id9 hi).2.1 (hall i)
 |fuel+1,m,listed,ac,w,hR,hc=>by
  refine⟨λh=>hQ _ _ (Hd4 hD hT hR (Le1 hD hR.size h)),λi hi=>?_⟩
  obtain⟨h1,h2,h3⟩:=id9 hi;have hdi:∀j∈Ja5 (Oa1 ops i),Da6 listed j:=λj hj=>h3 hR.size j hj (by have:=Ec3 hD.rows (Ca4 h1) hj;omega)
  have hcount:yb9 (listed.setIfInBounds i true)<=fuel:=by
   have his:i<listed.size:=by rw[hR.size];exact h1
   have hf:listed.toList[i]?=some false:=by
    have:listed.getD i true=false:=by unfold Da6 at h2;simpa using h2
    simp only[Array.getD,his,dite_true] at this;rw[Qec (by simpa using his)]
    congr 1
   have:=tc8 listed.toList i hf
   unfold yb9 at hc ⊢;rw[Qeu];omega
  rcases hc3 (tr:=tr) (P:=E.P) (ops:=ops) i with hk|hk|hk
  ·exact ee9 hD hT hin hlen hF hDS hG0 hcalls hR h1 hk h2 hdi λac' w' hR'=>qc8 hQ fuel m _ ac' w' hR' hcount
  ·exact ee7 hD hT hin hpairs hF hDS hG0 hcalls hR h1 hk h2 hdi λac' w' hR'=>qc8 hQ fuel m _ ac' w' hR' hcount
  ·exact ee8 hD hT hin hF hDS hG0 hcalls hR h1 hk h2 hdi λac' w' hR'=>qc8 hQ fuel (i+1) _ ac' w' hR' hcount
end
section
variable{DS:Nat->Prop}{tm:Array Value}{ds:List Deferred}{Fe:Fence}{nn:Nat}{E:Env}
theorem Ce6 (hF : FW Fe) (hm : E.P.follows .mixedOrders = true) (hcalls : ∀ f, g9 E.P E.G f (E.call f)) {W : Nat → Prop} {ρ0 : Rho} {H0 : List b8} {F0 : Fz} {w0 : World} {k : Nat} (hG0 : GOk E F0 w0)
  {id:Nat} {ops:Array Oper} {s:St} {x:f8} {s':St} (hDS:∀j d,j<ops.size->sa0 ops j=some d->DS d) (hlen:H0.length<=s.H.length)
  (he:(S7 E k (zb7 E.P ops) s).run=some (x,s')) {ac:Act} {w:World} {Q:Exit->Act->World->Prop} (hI:Vb6 DS tm ds W ρ0 H0 F0 w0 s ac w)
  (hQ:∀ac' w',Vb6 DS tm ds W ρ0 H0 F0 w0 s' ac' w'->Q (toX x) ac' w'):(Code.region id ops true).wpIn Fe nn E.P Q ac w:=by
 have hdr:∃dsts asq l ps,zb7 E.P ops=.draw dsts asq l ps:=by
  unfold zb7 at he ⊢;have hT:∀tr,(∃a b c d,zb6 tr E.P ops=.draw a b c d)\/zb6 tr E.P ops=.bad:=λtr=>by
   unfold zb6
   simp only
   cases qe9 tr E.P ops (Region.before ops).toList 0 ops.toList with
   |none=>exact .inr rfl
   |some ks =>
    simp only[Nd8];split
    ·exact .inl ⟨_,_,_,_,rfl⟩
    ·exact .inr rfl
  revert he
  rcases hT 0 with⟨a,b,c,d,h0⟩|h0<;>rw[h0]<;>intro he
  ·exact⟨_,_,_,_,rfl⟩
  ·revert he
   rcases hT 1 with⟨a,b,c,d,h1⟩|h1<;>rw[h1]<;>intro he
   ·exact⟨_,_,_,_,rfl⟩
   ·revert he
    rcases hT 2 with⟨a,b,c,d,h2⟩|h2<;>rw[h2]<;>intro he
    ·exact⟨_,_,_,_,rfl⟩
    ·cases he
 obtain⟨dsts,asq,l,ps,hc⟩:=hdr;rw[hc] at he;obtain⟨tr,M,ks,hD,rfl,rfl,rfl,rfl⟩:=We0 hc
 have he' : ((T3 E ((List.range ops.size).filterMap (fc9 ks)) s).bind fun s => (T3 E ((List.range ops.size).filterMap (Cc7 ks)) s).bind fun s =>
   Bool.rec (motive:=λ_=>DT (f8×St)) .fail (Bool.rec (motive:=λ_=>DT (f8×St)) .fail (.ret (.normal,s)) (pc2 s.a ((List.range ops.size).filterMap (fc9 ks)))) (mb0 E s.a (ab5 ops.size M ks))).run=some (x,s'):=he
 obtain⟨s1,h1,h2⟩:=DT.run_bind_some he';obtain⟨s2,h3,h4⟩:=DT.run_bind_some h2;obtain⟨U,u0,u1,u2⟩:=Vb1 _ _ _ _ h1;obtain⟨T,t0,t1,t2⟩:=Vb1 _ _ _ _ h3;have hT:Pd1 E ops ks s U T:=⟨u0,u2,t0.trans u1.symm,t2⟩;cases hp:mb0 E s2.a (ab5 ops.size M ks) with
 |false=>rw[hp] at h4;cases h4
 |true =>
 rw[hp] at h4
 simp only at h4
 cases hs:pc2 s2.a ((List.range ops.size).filterMap (fc9 ks)) with
 |false=>rw[hs] at h4;cases h4
 |true =>
 rw[hs] at h4;have h4':some (f8.normal,s2)=some (x,s'):=h4;injection h4' with h4';injection h4' with e1 e2;subst e1 e2
 rw[<- t1] at hp hs hQ;have hin:∀j,j<ops.size->O2 tr E.P ops j=0->∀d,sa0 ops j=some d->d<s.a.length:=λj hj hk d hd=>by
  rw[<- (hc5 hD hT ops.size (Qee _)).2];refine id7 hs (xc8 tr E.P ops M j) ?_ d hd;rw[Qet];exact⟨j,List.mem_range.2 hj,(te0 hD hj hk).1⟩
 refine wpIn_region_any hm (qc8 hD hT hin hlen hF hDS hp hG0 hcalls hQ ops.size 0 _ ac _ (fe0 hD hT hlen hI) ?_);unfold yb9;simp
end
section
variable{P:Program}{WB K:Nat->Prop}{J:List Value->World->Prop}{ρ0:Rho}{H0:List b8}{F0:Fz}{w w0:World}{s:St}{ac:Act}{E:Env}
theorem bf1 {Fe : Fence} {n m kk id : Nat} (hm : E.P.follows .mixedOrders = true) (hF : FW Fe) (hG0 : GOk E F0 w0) (hcalls : ∀ f, g9 E.P E.G f (E.call f)) (hJ : yc4 K J) {ops : Array Oper} {Q : Exit → Act → World → Prop} {x : f8} {s' : St}
  (hI:Me7 E.P WB K J n ρ0 H0 F0 w0 s ac w) (he:(S7 E kk (.mask n (ops.toList.filterMap (·.dst)) (zb7 E.P ops)) s).run=some (x,s'))
  (hQ:∀ac' w',Me7 E.P WB K J n ρ0 H0 F0 w0 s' ac' w'->ac'.defers=ac.defers->(∀t,¬ t∈ops.toList.filterMap (·.dst)->ac'.tmps[t]?=ac.tmps[t]?)->Q (toX x) ac' w'):(Code.region id ops true).wpIn Fe m E.P Q ac w:=by
 obtain⟨ρ,F,W',up,hI⟩:=hI;have he':((S7 E kk (zb7 E.P ops) ⟨p5 (oa7 s.H) (N8 s.a n),q9 s.H⟩).bind λr=>.guard (Cc2 s.H r.2.H) (.ret (r.1,⟨ya0 (ops.toList.filterMap (·.dst)) s.a r.2.a 0,C4 s.H r.2.H⟩))).run=some (x,s'):=he
 obtain⟨⟨x1,s1⟩,h1,h2⟩:=DT.run_bind_some he';obtain⟨ho,h2⟩:=DT.run_guard_some h2;have h2:some (x1,(⟨ya0 (ops.toList.filterMap (·.dst)) s.a s1.a 0,C4 s.H s1.H⟩:St))=some (x,s'):=h2;injection h2 with h2;injection h2 with e1 e2;subst e1 e2
 have hG:GOk E F w:=hG0.adv hI.core.adv;refine Ce6 (DS:=(·∈ops.toList.filterMap (·.dst))) (tm:=ac.tmps) (ds:=ac.defers) (W:=W') (ρ0:=ρ) (H0:=q9 s.H) (F0:=F) (w0:=w) hF hm hcalls hG (λj d hj hd=>?_) (Qee _) h1 ⟨rfl,rfl,λ_ _=>rfl,ρ,F,.refl,hI.core.hrel,hI.arel⟩ λac' w' hM=>?_
 ·refine Qet.2 ⟨Oa1 ops j,?_,hd⟩
  have:=Ca4 hj
  exact Array.mem_toList_iff.2 (Array.mem_of_getElem? this)
 ·obtain⟨k1,k2,k3⟩:=Gd9 hJ hI ho hM;exact hQ ac' w' k1 k2 k3
end
section
variable{WB K:Nat->Prop}{J:List Value->World->Prop}{DF:List Deferred->Prop}{S S0:HL}{rv:Value}{ρ ρ0:Rho}{H H0 H':List b8}{F F0:Fz}{w w0 w':World}{W':Nat->Prop}{up:List Value}{E:Env}{n m:Nat}{Fe:Fence}{pr:List Nat}{yl:Option Rd}{kp:Nat->List Nat}{rf:Operand->Array Tmp->Code->Code->PC}
def YOk(E:Env)(Fe:Fence)(m n k:Nat)(rd:Rd)(I:HL->St->Act->World->Prop):Prop :=
 ∀(ops:Array Oper) (i:Nat) (o:Oper) (S:HL) (args:List Operand) (g:Option (Nat×Bool)) (s s':St) (xx:f8) (ac:Act) (w:World) (rest:List Nat) (Q:Exit->Act->World->Prop),
  ops[i]?=some o->Fc5 ops S o=some args->ea7 ops o=some g->gOk n g=true->dOk n o.dst=true->args.all (ltO n)=true->args.length=rd.ps.length->I S s ac w ->
  (S7 E k (.round o.dst g (args.map j8) n rd.nOut rd.ps rd.asq rd.body) s).run=some (xx,s')->(xx=.normal->∀ac' w',I (rmD S o.dst) s' ac' w'->wpOpsIn Fe m E.P ops Q rest ac' w')->wpOpsIn Fe m E.P ops Q (i::rest) ac w
def Uf8(E:Env)(Fe:Fence)(m k:Nat)(rf:Operand->Array Tmp->Code->Code->PC)(I:St->Act->World->Prop):Prop :=
 ∀(g:Operand) (ps:Array Tmp) (asq body:Code) (s s':St) (x:f8) (ac:Act) (w:World) (Q:Exit->Act->World->Prop),(S7 E k (rf g ps asq body) s).run=some (x,s')->I s ac w ->
  (∀ac' w',I s' ac' w'->Q (toX x) ac' w')->(Code.rangeFunc g ps asq body).wpIn Fe m E.P Q ac w
theorem I3.less{P:Program}{s:St}{ac:Act}(h:I3 P WB K J n S rv DF ρ0 H0 F0 w0 s ac w)(hs:af2 S0 S=true):I3 P WB K J n S0 rv DF ρ0 H0 F0 w0 s ac w:=by
 refine⟨h.inv,λp hp hg=>?_,h.df⟩
 unfold af2 at hs;rw[Qen] at hs;exact Oc1 h.held (hs p hp) hg
theorem fe1{k:Nat}{l:List PI}{dd:List Nat}{s s':St}{x:f8}(he:(S7 E k (.mask n dd (.ops l)) s).run=some (x,s')):x=.normal:=by
 have he':((S7 E k (.ops l) ⟨p5 (oa7 s.H) (N8 s.a n),q9 s.H⟩).bind λr=>.guard (Cc2 s.H r.2.H) (.ret (r.1,⟨ya0 dd s.a r.2.a 0,C4 s.H r.2.H⟩))).run=some (x,s'):=he
 obtain⟨⟨x1,s1⟩,h1,h2⟩:=DT.run_bind_some he';obtain⟨_,h2⟩:=DT.run_guard_some h2;have h2:some (x1,(⟨ya0 dd s.a s1.a 0,C4 s.H s1.H⟩:St))=some (x,s'):=h2;injection h2 with h2;injection h2 with e1 _;subst e1
 obtain⟨s2,_,h4⟩:=DT.run_bind_some (show ((T3 E l ⟨p5 (oa7 s.H) (N8 s.a n),q9 s.H⟩).bind λs=>.ret (f8.normal,s)).run=some (x1,s1) from h1)
 have h4:some (f8.normal,s2)=some (x1,s1):=h4;injection h4 with h4;injection h4 with e1 _
 exact e1.symm
theorem Fc8{k:Nat}{a b:PC}{s s':St}{x:f8}(he:(S7 E k (.seq a b) s).run=some (x,s')):∃x1 s1,(S7 E k a s).run=some (x1,s1)/\(x1=.normal->(S7 E k b s1).run=some (x,s'))/\(x1≠.normal->x1=x/\s1=s'):=by
 obtain⟨⟨x1,s1⟩,h1,h2⟩:=DT.run_bind_some (show ((S7 E k a s).bind λr=>f8.rec (motive:=λ_=>DT (f8×St)) (S7 E k b r.2) (λid=>.ret (.exit id,r.2)) (.ret (.ret,r.2)) r.1).run=some (x,s') from he)
 refine⟨x1,s1,h1,λe=>by subst e;exact h2,λe=>?_⟩
 cases x1 with
 |normal=>exact absurd rfl e
 |exit id =>
  have h2:some (f8.exit id,s1)=some (x,s'):=h2;injection h2 with h2;injection h2 with e1 e2;exact⟨e1,e2⟩
 |ret =>
  have h2:some (f8.ret,s1)=some (x,s'):=h2;injection h2 with h2;injection h2 with e1 e2;exact⟨e1,e2⟩
section
variable(hF:FW Fe)(hG0:GOk E F0 w0)(hcalls:∀f,g9 E.P E.G f (E.call f))(hJ:yc4 K J)(hyl:∀rd,yl=some rd->YOk E Fe m n H0.length rd λS=>I3 E.P WB K J n S rv DF ρ0 H0 F0 w0)
include hF hG0 hcalls hJ hyl
theorem Qb3 {ops : Array Oper} {Q : Exit → Act → World → Prop} : ∀ (f : Nat) (r : List Oper) (S : HL) (k : Nat) (s : St) (x : f8) (s' : St) (ac : Act) (w : World), ops.toList.drop k = r → I3 E.P WB K J n S rv DF ρ0 H0 F0 w0 s ac w →
  (S7 E H0.length (ee3 E.P n pr yl S0 ops f r S) s).run=some (x,s')->(∀ac' w',I3 E.P WB K J n S0 rv DF ρ0 H0 F0 w0 s' ac' w'->Q (toX x) ac' w')->wpOpsIn Fe m E.P ops Q (List.range' k r.length) ac w
 |0,r,S,k,s,x,s',ac,w,hr,hI,he,hQ=>by cases he
 |f+1,[],S,k,s,x,s',ac,w,hr,hI,he,hQ=>by
  simp only[ee3] at he;cases hs:af2 S0 S with
  |false=>rw[hs] at he;cases he
  |true =>
   rw[hs] at he;have he:some (f8.normal,s)=some (x,s'):=he;injection he with he;injection he with e1 e2;subst e1 e2
   exact hQ ac w (hI.less hs)
 |f+1,o::r,S,k,s,x,s',ac,w,hr,hI,he,hQ=>by
  have hi:ops[k]?=some o:=by
   have:(ops.toList.drop k)[0]?=some o:=by rw[hr];rfl
   simpa using this
  have hr1:ops.toList.drop (k+1)=r:=by rw[<- List.drop_drop,hr];rfl
  have hrange:List.range' k (o::r).length=k::List.range' (k+1) r.length:=by
   rw[show (o::r).length=r.length+1 from rfl,List.range'_succ]
  simp only[ee3] at he;cases hy:Fc5 ops S o with
  |some args =>
   rw[hy] at he
   simp only at he
   cases hyl':yl with
   |none=>rw[hyl'] at he;cases he
   |some rd =>
   cases hg:ea7 ops o with
   |none=>rw[hyl',hg] at he;cases he
   |some g =>
   rw[hyl',hg] at he
   simp only at he
   split at he
   case h_2=>cases he
   rename_i hc;simp only[Qeb] at hc;obtain⟨x1,s1,h1,h2,h3⟩:=Fc8 he;rw[hrange];refine hyl rd hyl' ops k o S args g s s1 x1 ac w _ Q hi hy hg hc.1.1.1 hc.1.1.2 hc.1.2 (Qei hc.2) hI h1 λhx ac' w' hI'=>?_
   have h4:=h2 hx;rw[<- hyl'] at h4;exact Qb3 f r _ (k+1) s1 x s' ac' w' hr1 hI' h4 hQ
  |none =>
  rw[hy] at he
  simp only at he
  cases hcp:kd4 ops S o with
  |some dg =>
   obtain⟨d,g⟩:=dg;rw[hcp] at he
   simp only at he
   split at he
   case h_2=>cases he
   rename_i hd;rw[Qex] at hd;obtain⟨x1,s1,h1,h2,h3⟩:=Fc8 he;rw[hrange];refine af4 hF hG0 hcalls hJ hi hcp hd hI h1 λhx ac' w' hI'=>?_
   exact Qb3 f r _ (k+1) s1 x s' ac' w' hr1 hI' (h2 hx) hQ
  |none =>
  rw[hcp] at he
  simp only at he
  cases hsp:cSp E.P n pr o with
  |some so =>
   rw[hsp] at he
   simp only at he
   cases hg:ea7 ops o with
   |none=>rw[hg] at he;cases he
   |some g =>
   rw[hg] at he
   simp only at he
   split at he
   case h_2=>cases he
   rename_i hc;rw[Qeb] at hc;obtain⟨x1,s1,h1,h2,h3⟩:=Fc8 he;obtain⟨s2,k1,k2⟩:=DT.run_bind_some (show ((qe4 E s o.dst g so).bind λs=>.ret (f8.normal,s)).run=some (x1,s1) from h1)
   have k2:some (f8.normal,s2)=some (x1,s1):=k2;injection k2 with k2;injection k2 with e1 e2;subst e1 e2
   rw[hrange];refine Mf6 hF hG0 hJ hi hsp hg hc.1 hc.2 hI k1 λac' w' hI'=>?_
   exact Qb3 f r _ (k+1) s2 x s' ac' w' hr1 hI' (h2 rfl) hQ
  |none =>
  rw[hsp] at he
  simp only at he
  generalize hm:Nc9 (ee2 E.P n pr ops S) r=q at he;cases hl:sc1 E.P ops (o::r.take q) with
  |none=>rw[hl] at he;cases he
  |some l =>
  rw[hl] at he
  simp only at he
  obtain⟨x1,s1,h1,h2,h3⟩:=Fc8 he;have hx1:=fe1 h1;subst hx1;have hsplit:o::r=(o::r.take q)++r.drop q:=by rw[List.cons_append,List.take_append_drop]
  have hlen:(o::r).length=(o::r.take q).length+(r.drop q).length:=by rw[<- Qek,<- hsplit]
  have hrange2:List.range' k (o::r).length=List.range' k (o::r.take q).length++List.range' (k+(o::r.take q).length) (r.drop q).length:=by
   rw[hlen,<- List.range'_append_1]
  rw[hrange2];obtain⟨hinv,hheld,hdf⟩:=hI;refine (uf6 (x:=.normal) (s':=s1) hF hG0 hcalls hJ (r:=o::r.take q) (l:=l) (dd:=yc5 (o::r.take q)) ⟨r.drop q,by rw[hr];exact hsplit⟩ (λo' ho' d hd=>?_) hl hinv h1 λac' w' hI' hd' hsm=>?_).2
  ·unfold yc5;exact Qet.2 ⟨o',ho',hd⟩
  ·refine Qb3 f (r.drop q) _ (k+(o::r.take q).length) s1 x s' ac' w' ?_ ⟨hI',kd5 hheld hsm,by rw[hd'];exact hdf⟩ (h2 rfl) hQ
   ·rw[<- List.drop_drop,hr,hsplit,List.drop_left]
theorem Uc9 {c : Code} {y : PC} {keep : List Nat} (ih : ∀ (s : St) (x : f8) (s' : St), (S7 E H0.length y s).run = some (x, s') → ∀ (ac : Act) (w : World) (Q : Exit → Act → World → Prop), I3 E.P WB K J n S0 rv DF ρ0 H0 F0 w0 s ac w →
  (∀ac' w',I3 E.P WB K J n S0 rv DF ρ0 H0 F0 w0 s' ac' w'->Q (toX x) ac' w')->c.wpIn Fe m E.P Q ac w) :
  ∀(nn:Nat) (s:St) (x:f8) (s':St),(dc9 (λs=>tidyM H0.length ⟨S9 keep s.a 0,s.H⟩) (S7 E H0.length y) nn s).run=some (x,s')->∀(ac:Act) (w:World) (Q:Exit->Act->World->Prop),I3 E.P WB K J n S0 rv DF ρ0 H0 F0 w0 s ac w ->
  (∀ac' w',I3 E.P WB K J n S0 rv DF ρ0 H0 F0 w0 s' ac' w'->Q (toX x) ac' w')->Code.roundsIn Fe m E.P c Q nn ac w
 |0,s,x,s',he,ac,w,Q,hI,hQ=>by cases he
 |nn+1,s,x,s',he,ac,w,Q,hI,hQ=>by
  have he':((tidyM H0.length ⟨S9 keep s.a 0,s.H⟩).bind λs=>(S7 E H0.length y s).bind λr =>
   f8.rec (motive:=λ_=>DT (f8×St)) (dc9 (λs=>tidyM H0.length ⟨S9 keep s.a 0,s.H⟩) (S7 E H0.length y) nn r.2) (λid=>.ret (.exit id,r.2)) (.ret (.ret,r.2)) r.1).run=some (x,s'):=he
  obtain⟨s1,h1,h2⟩:=DT.run_bind_some he';obtain⟨⟨x2,s2⟩,h3,h4⟩:=DT.run_bind_some h2;have hI1:=hI.tidyM h1;rw[roundsIn_succ];refine ih s1 x2 s2 h3 ac w _ hI1 λac' w' hI2=>?_
  cases x2 with
  |normal=>exact Uc9 ih nn s2 x s' h4 ac' w' Q hI2 hQ
  |exit id =>
   have h4':some (f8.exit id,s2)=some (x,s'):=h4;injection h4' with h4';injection h4' with e1 e2;subst e1 e2
   exact hQ _ _ hI2
  |ret =>
   have h4':some (f8.ret,s2)=some (x,s'):=h4;injection h4' with h4';injection h4' with e1 e2;subst e1 e2
   exact hQ _ _ hI2
theorem yc6 (hm : E.P.follows .mixedOrders = true) (hrf : Uf8 E Fe m H0.length rf (I3 E.P WB K J n S0 rv DF ρ0 H0 F0 w0)) : ∀ (c : Code) (cur : Nat) (s : St) (x : f8) (s' : St), (S7 E H0.length (Ha1 E.P n pr yl S0 kp rf cur c) s).run = some (x, s') → ∀ (ac : Act) (w : World) (Q : Exit → Act → World → Prop), I3 E.P WB K J n S0 rv DF ρ0 H0 F0 w0 s ac w →
  (∀ac' w',I3 E.P WB K J n S0 rv DF ρ0 H0 F0 w0 s' ac' w'->Q (toX x) ac' w')->c.wpIn Fe m E.P Q ac w:=by
 intro c
 induction c with
 |skip =>
  intro cur s x s' he ac w Q hI hQ;have he':some (f8.normal,s)=some (x,s'):=he;injection he' with he';injection he' with e1 e2;subst e1 e2
  exact wpIn_skip (hQ _ _ hI)
 |region id ops d =>
  intro cur s x s' he ac w Q hI hQ;cases d with
  |true =>
   simp only[Ha1] at he
   split at he
   case h_2=>cases he
   rename_i hc;obtain⟨hinv,hheld,hdf⟩:=hI;exact bf1 hm hF hG0 hcalls hJ hinv he λac' w' hI' hd' hsm=>hQ ac' w' (I3.less (S:=rmL S0 (yc5 ops.toList)) ⟨hI',kd5 hheld hsm,by rw[hd'];exact hdf⟩ hc)
  |false =>
   refine wpIn_region ?_;rw[List.range_eq_range']
   have:=Qb3 (Q:=Q) hF hG0 hcalls hJ hyl (ops.size+1) ops.toList S0 0 s x s' ac w rfl hI he hQ
   simpa using this
 |seq a b iha ihb =>
  intro cur s x s' he ac w Q hI hQ;obtain⟨x1,s1,h1,h2,h3⟩:=Fc8 he;refine wpIn_seq (iha cur s x1 s1 h1 ac w _ hI λac' w' hI'=>?_)
  cases x1 with
  |normal=>exact ihb cur s1 x s' (h2 rfl) ac' w' Q hI' hQ
  |exit id =>
   obtain⟨rfl,rfl⟩:=h3 (by simp)
   exact hQ _ _ hI'
  |ret =>
   obtain⟨rfl,rfl⟩:=h3 (by simp)
   exact hQ _ _ hI'
 |cond c a b iha ihb =>
  intro cur s x s' he ac w Q hI hQ;simp only[Ha1] at he
  split at he
  case h_2=>cases he
  rename_i hc;have he':(match d7 E s.a (j8 c) with
   |.v (.bool t)=>DT.ite t (S7 E H0.length (Ha1 E.P n pr yl S0 kp rf cur a) s) (S7 E H0.length (Ha1 E.P n pr yl S0 kp rf cur b) s)
   |_=>DT.fail).run=some (x,s'):=he
  obtain⟨ρ,F,W',up,hI2⟩:=hI.inv;have hr:=Ib7 hI2.vals hI2.size (hG0.adv hI2.core.adv) c hc
  revert he' hr
  generalize d7 E s.a (j8 c)=u;intro he' hr
  split at he'
  ·rename_i t;have ht:=Ne0 hr
   rcases DT.run_ite_some he' with⟨rfl,h⟩|⟨rfl,h⟩
   ·exact wpIn_cond_true ht (iha cur s x s' h ac w Q hI hQ)
   ·exact wpIn_cond_false ht (ihb cur s x s' h ac w Q hI hQ)
  ·cases he'
 |block id a ih =>
  intro cur s x s' he ac w Q hI hQ;obtain⟨⟨x1,s1⟩,h1,h2⟩:=DT.run_bind_some (show ((S7 E H0.length (Ha1 E.P n pr yl S0 kp rf id a) s).bind λr=>f8.rec (motive:=λ_=>DT (f8×St)) (.ret (.normal,r.2))
   (λid'=>Bool.rec (.ret (.exit id',r.2)) (.ret (.normal,r.2)) (Nat.beq id' id)) (.ret (.ret,r.2)) r.1).run=some (x,s') from he)
  refine wpIn_block (ih id s x1 s1 h1 ac w _ hI λac' w' hI'=>?_)
  cases x1 with
  |normal =>
   have h2':some (f8.normal,s1)=some (x,s'):=h2;injection h2' with h2';injection h2' with e1 e2;subst e1 e2
   exact hQ _ _ hI'
  |ret =>
   have h2':some (f8.ret,s1)=some (x,s'):=h2;injection h2' with h2';injection h2' with e1 e2;subst e1 e2
   exact hQ _ _ hI'
  |exit id' =>
   have h2':(Bool.rec (motive:=λ_=>DT (f8×St)) (.ret (.exit id',s1)) (.ret (.normal,s1)) (Nat.beq id' id)).run=some (x,s'):=h2
   show if id'=id then Q .normal ac' w' else Q (.exit id') ac' w'
   cases hb:Nat.beq id' id with
   |true =>
    rw[hb] at h2';have h3:some (f8.normal,s1)=some (x,s'):=h2';injection h3 with h3;injection h3 with e1 e2;subst e1 e2
    rw[if_pos (Qei hb)];exact hQ _ _ hI'
   |false =>
    rw[hb] at h2';have h3:some (f8.exit id',s1)=some (x,s'):=h2';injection h3 with h3;injection h3 with e1 e2;subst e1 e2
    rw[if_neg (Nat.ne_of_beq_eq_false hb)];exact hQ _ _ hI'
 |loop a ih =>
  intro cur s x s' he ac w Q hI hQ;exact wpIn_loop_rounds E.N (Uc9 hF hG0 hcalls hJ hyl (ih cur) E.N s x s' he ac w Q hI hQ)
 |rangeFunc g ps asq body _ _ =>
  intro cur s x s' he ac w Q hI hQ;exact hrf g ps asq body s s' x ac w Q he hI hQ
 |exit id =>
  intro cur s x s' he ac w Q hI hQ;have he':some (f8.exit id,s)=some (x,s'):=he;injection he' with he';injection he' with e1 e2;subst e1 e2
  exact wpIn_exit (hQ _ _ hI)
 |ret =>
  intro cur s x s' he ac w Q hI hQ;have he':some (f8.ret,s)=some (x,s'):=he;injection he' with he';injection he' with e1 e2;subst e1 e2
  exact wpIn_ret (hQ _ _ hI)
 |label l =>
  intro cur s x s' he ac w Q hI hQ;have he':some (f8.normal,s)=some (x,s'):=he;injection he' with he';injection he' with e1 e2;subst e1 e2
  exact wpIn_label (hQ _ _ hI)
 |_ =>
  intro cur s x s' he;cases he
end
end
def jc1(st:LoopState)(pe:Option Code)(fn:FuncId)(tm:List Value)(ps:Array Tmp)(asq body:Code)(D:Nat):Obj :=
 .loop { state:=st,pending:=pe,fn,tmps:=tm.toArray,params:=ps,assign:=asq,body,defers:=D }
def Oc4:Option Code->Option Value
 |none=>some (.int .i64 (.ofNat 0))
 |some .ret=>some (.int .i64 (.ofNat 1))
 |some (.exit id)=>some (.int .i64 (.ofNat (id+2)))
 |_=>none
def KR(l:Nat)(Ds:List Nat):Nat->Prop:=λk=>k=l\/k∈Ds
def Ne4(Ds:List Nat)(w:World):Prop:=∀d∈Ds,w.heap[d]?=some (.deferred (some []))
def JI(l D:Nat)(Ds:List Nat)(fn:FuncId)(tm:List Value)(ps:Array Tmp)(asq body:Code)(up:List Value)(w:World):Prop :=
 ∃pe v,Oc4 pe=some v/\up=v::tm/\w.heap[l]?=some (jc1 (if pe.isNone then .ready else .done) pe fn tm ps asq body D)/\Ne4 Ds w
def JR(l D:Nat)(Ds:List Nat)(fn:FuncId)(tm:List Value)(ps:Array Tmp)(asq body:Code)(st:LoopState)(inn:List Value)(up:List Value)(w:World):Prop :=
 up=inn++Value.int .i64 (.ofNat 0)::tm/\w.heap[l]?=some (jc1 st none fn tm ps asq body D)/\Ne4 Ds w
def noD:List Deferred->Prop:=λds=>ds=[]
theorem vf3(l D:Nat)(Ds:List Nat)(fn:FuncId)(tm:List Value)(ps:Array Tmp)(asq body:Code):yc4 (KR l Ds) (JI l D Ds fn tm ps asq body):=λup w w' h ⟨pe,v,h1,h2,h3,h4⟩ =>
 ⟨pe,v,h1,h2,(h l (.inl rfl)).trans h3,λd hd=>(h d (.inr hd)).trans (h4 d hd)⟩
theorem vf4(l D:Nat)(Ds:List Nat)(fn:FuncId)(tm:List Value)(ps:Array Tmp)(asq body:Code)(st:LoopState)(inn:List Value):yc4 (KR l Ds) (JR l D Ds fn tm ps asq body st inn):=λup w w' h ⟨h1,h2,h3⟩ =>
 ⟨h1,(h l (.inl rfl)).trans h2,λd hd=>(h d (.inr hd)).trans (h3 d hd)⟩
section
variable{P:Program}{WB K:Nat->Prop}{J J':List Value->World->Prop}{DF:List Deferred->Prop}{S S0:HL}{rv:Value}{ρ ρ0:Rho}{H H0 H':List b8}{F F0:Fz}{w w0 w':World}{W':Nat->Prop}{up up':List Value}{E:Env}{n m:Nat}{Fe:Fence}{a:List b7}{ac:Act}{ds ds':List Deferred}
theorem C2.re(h:C2 P WB K J ρ0 H0 F0 w0 H ds w ρ F W' up)(hJ:J' up' w)(hM:tc9 WB W' ds' w):C2 P WB K J' ρ0 H0 F0 w0 H ds' w ρ F W' up' :=
 ⟨h.sub,h.adv,h.hrel,h.srel,h.kept,h.far,hJ,hM⟩
theorem Ne4.turn{w:World}{l:Nat}{r:Loop}{Ds:List Nat}(h:Ne4 Ds w)(hl:w.heap[l]?=some (.loop r))(o:Obj):Ne4 Ds (w.putObj l o):=λd hd=>by
 have hne:d≠l:=λe=>by
  have:=h d hd
  rw[e,hl] at this;cases this
 rw[World.putObj_heap_other hne];exact h d hd
theorem qc9:tc9 WB W' [] w:=⟨λd hd=>by simp at hd,List.nodup_nil⟩
theorem Ne5{k:Nat}{o:Obj}(hk:w.heap[k]?=some o)(ho:∀cc t fr,o≠.cells cc t fr)(b:Nat):w.cell? ⟨k,b,none⟩=none:=by
 cases o with
 |cells=>exact (ho _ _ _ rfl).elim
 |_=>simp[World.cell?,hk]
theorem C2.turn (h : C2 P WB K J ρ0 H0 F0 w0 H ds w ρ F W' up) (k : Nat) (o o' : Obj) (hk : w.heap[k]? = some o) (ho : ∀ cc t fr, o ≠ .cells cc t fr) (hm : ∀ es clk, o ≠ .map es clk) (hWB : WB k) (hnW : ¬ W' k)
  (hJ:J' up' (w.putObj k o')) (hM:tc9 WB W' ds' (w.putObj k o')):C2 P WB K J' ρ0 H0 F0 w0 H ds' (w.putObj k o') ρ F W' up'/\Tr ρ H F w ρ H F (w.putObj k o'):=by
 have hlt:=(Qeh.1 hk).1;have hnF:∀b,¬ F k b:=λb hf=>by
  have:=h.hrel.frz k b hf
  rw[Ne5 hk ho b] at this;cases this
 have hbase:C2 P WB K (λ_ _=>True) ρ0 H0 F0 w0 H [] w ρ F W' up':=h.re trivial qc9
 obtain⟨c1,c2⟩:=hbase.change (w':=w.putObj k o') (H':=H) (up':=up') k hWB hnW hnF rfl rfl rfl (Qee _) (by simp) (λj hj=>World.putObj_heap_other hj)
  (λcc t fr hc=>by rw[hk] at hc;injection hc with hc;exact (ho _ _ _ hc).elim) rfl (λid b hb=>⟨b,hb,rfl,rfl,rfl,rfl,Qee _,λ_=>rfl⟩) (λid b hb _ _ _=>hb)
  (λ_ id b hb hs hd e=>by
   obtain⟨_,_,_,_,hc⟩:=h.srel.has id b hb hs hd;rw[e] at hc
   rcases hc with⟨_,row,vs,t,_,m2,_⟩|⟨t,Kt,El,fl,es,clk,_,_,_,m4,_⟩
   ·rw[hk] at m2;injection m2 with m2;exact (ho _ _ _ m2).elim
   ·rw[hk] at m4;injection m4 with m4;exact (hm _ _ m4).elim)
  trivial (λD hD=>by simp at hD)
 exact⟨c1.re hJ hM,c2⟩
end
section
variable{P:Program}{WB K:Nat->Prop}{J J':List Value->World->Prop}{DF:List Deferred->Prop}{S S0:HL}{rv:Value}{ρ ρ0:Rho}{H H0 H':List b8}{F F0:Fz}{w w0 w':World}{W':Nat->Prop}{up up':List Value}{E:Env}{n m:Nat}{Fe:Fence}{a b:List b7}{ac:Act}{ds ds':List Deferred}{vs us:List Value}
theorem VR.drop(h:VR ρ H F w a (vs++us)){k:Nat}(hk:vs.length=k):VR ρ H F w (j7 a k) us:=by
 have hl:=h.1;rw[Qek] at hl;rw[O1];refine⟨by rw[List.length_drop];omega,λi x x' hx hx'=>?_⟩
 rw[Qes] at hx;refine h.2 (k+i) x x' hx ?_;rw[Qem (by omega),hk,Nat.add_sub_cancel_left]
 exact hx'
theorem VR.take(h:VR ρ H F w a (vs++us)){k:Nat}(hk:vs.length=k):VR ρ H F w (N8 a k) vs:=by
 have hl:=h.1;rw[Qek] at hl;rw[O0];refine⟨by rw[List.length_take];omega,λi x x' hx hx'=>?_⟩
 have hi:=(Qea.1 hx').1;rw[Qeo,if_pos (by omega)] at hx
 exact h.2 i x x' hx (by rw[Qef hi];exact hx')
theorem VR.app(h:VR ρ H F w a vs)(h':VR ρ H F w b us):VR ρ H F w (Ev.app a b) (vs++us):=by
 rw[G9];refine⟨by rw[Qek,Qek,h.1,h'.1],λi x x' hx hx'=>?_⟩
 rcases Qep i a.length with hi|hi
 ·rw[Qef hi] at hx;rw[Qef (h.1 ▸ hi)] at hx';exact h.2 i x x' hx hx'
 ·rw[Qem hi] at hx;rw[Qem (h.1 ▸ hi)] at hx';rw[h.1] at hx;exact h'.2 _ x x' hx hx'
theorem VR.cons{x:b7}{x':Value}(hx:XW ρ H F w x x')(h:VR ρ H F w a vs):VR ρ H F w (x::a) (x'::vs):=by
 refine⟨by simp[h.1],λi y y' hy hy'=>?_⟩
 cases i with
 |zero=>simp at hy hy';subst hy hy';exact hx
 |succ i=>exact h.2 i y y' (by simpa using hy) (by simpa using hy')
theorem VR.head{v:Value}(h:VR ρ H F w a (v::vs)):XW ρ H F w (hdA a) v:=by
 cases a with
 |nil=>exact .w (.unk _)
 |cons x a=>exact h.2 0 x v rfl rfl
theorem VR.set(h:VR ρ H F w a vs){x:b7}{x':Value}(hx:XW ρ H F w x x')(k:Nat):VR ρ H F w (setAt a k x) (vs.set k x'):=by
 rw[F5];refine⟨by simp[h.1],λi y y' hy hy'=>?_⟩
 rw[Qev] at hy hy';by_cases hi:k=i
 ·subst hi;rw[if_pos rfl] at hy hy'
  split at hy
  ·split at hy'
   ·injection hy with hy;injection hy' with hy';subst hy hy';exact hx
   ·cases hy'
  ·cases hy
 ·rw[if_neg hi] at hy hy';exact h.2 i y y' hy hy'
theorem VR.setUp{v0 v:Value}{x:b7}(h:VR ρ H F w a (vs++v0::us)){k:Nat}(hk:vs.length=k)(hx:XW ρ H F w x v):VR ρ H F w (setAt a k x) (vs++v::us):=by
 have:=h.set hx k
 rwa [List.set_append_right _ _ (by omega),hk,Nat.sub_self] at this
theorem Ce7 : ∀ (ps : List Nat) (vals : List b7) (avs : List Value) (base : List b7) (arr : List Value), vals.length = ps.length → avs.length = ps.length → (∀ (i : Nat) x x', vals[i]? = some x → avs[i]? = some x' → XW ρ H F w x x') → VR ρ H F w base arr →
  VR ρ H F w (Jf9 ps vals base) ((ps.zip avs).foldl (λt pv=>t.set pv.1 pv.2) arr)
 |[],vals,avs,base,arr,h1,h2,h3,h4=>h4
 |p::ps,[],avs,base,arr,h1,h2,h3,h4=>by simp at h1
 |p::ps,v::vals,[],base,arr,h1,h2,h3,h4=>by simp at h2
 |p::ps,v::vals,u::avs,base,arr,h1,h2,h3,h4 =>
  Ce7 ps vals avs (setAt base p v) (arr.set p u) (by simpa using h1) (by simpa using h2) (λi x x' hx hx'=>h3 (i+1) x x' (by simpa using hx) (by simpa using hx')) (h4.set (h3 0 v u rfl rfl) p)
theorem Hd5:∀(l:List (Nat×Value)) (t:Array Value),(l.foldl (λt pv=>t.setIfInBounds pv.1 pv.2) t).toList=l.foldl (λt pv=>t.set pv.1 pv.2) t.toList
 |[],t=>rfl
 |(p,v)::l,t=>by
  simp only[List.foldl_cons];rw[Hd5 l,Qeu]
theorem kd8(ps:Array Nat)(args:Array Value)(t:Array Value):((ps.zip args).foldl (λtmps (t,a)=>tmps.setIfInBounds t a) t).toList=(ps.toList.zip args.toList).foldl (λt pv=>t.set pv.1 pv.2) t.toList:=by
 rw[<- Array.foldl_toList,Array.toList_zip];exact Hd5 _ t
theorem fe2(ps:Array Nat)(args:Array Value)(t:Array Value):((ps.zip args).foldl (λtmps (t,a)=>tmps.setIfInBounds t a) t).size=t.size:=by
 rw[<- Array.length_toList,kd8,<- Array.length_toList];generalize ps.toList.zip args.toList=l;generalize t.toList=tl
 induction l generalizing tl with
 |nil=>rfl
 |cons p l ih=>rw[List.foldl_cons,ih];simp
theorem Qd7{x:b7}(h:cd9 x=true):x=.v (.int .i64 (.ofNat 0)):=by
 unfold cd9 at h
 split at h
 ·split at h
  ·rfl
  ·cases h
 ·cases h
theorem Ne6{pe:Option Code}(h:Oc4 pe=some (.int .i64 (.ofNat 0))):pe=none:=by
 unfold Oc4 at h
 split at h
 ·rfl
 ·cases h
 ·injection h with h;injection h with _ h;injection h with h;omega
 ·cases h
variable{l D:Nat}{Ds:List Nat}{fnO:FuncId}{tm:List Value}{ps:Array Tmp}{asC bodyC:Code}{rd:Rd}{k:Nat}
def ue9(E:Env)(WB:Nat->Prop)(l D:Nat)(Ds:List Nat)(fnO:FuncId)(tm:List Value)(ps:Array Tmp)(asC bodyC:Code)(nOut:Nat)(ρ0:Rho)(H0:List b8)(F0:Fz)(w0:World)(Fe:Fence)(m k:Nat)(st:LoopState)(c:Code)(pc:PC):Prop :=
 ∀(inn:List Value) (s:St) (x:f8) (s':St),(S7 E k pc s).run=some (x,s')->∀(ac:Act) (w:World) (Q:Exit->Act->World->Prop),
  I3 E.P WB (KR l Ds) (JR l D Ds fnO tm ps asC bodyC st inn) nOut [] undef noD ρ0 H0 F0 w0 s ac w ->
  (∀ac' w',I3 E.P WB (KR l Ds) (JR l D Ds fnO tm ps asC bodyC st inn) nOut [] undef noD ρ0 H0 F0 w0 s' ac' w'->Q (toX x) ac' w')->c.wpIn (Fe.inRound l) m E.P Q ac w
theorem vf5 (hF : FW Fe) (hG0 : GOk E F0 w0) (hps : rd.ps = ps.toList) (hnO : tm.length = rd.nOut) (hWl : WB l)
  (hAs:ue9 E WB l D Ds fnO tm ps asC bodyC rd.nOut ρ0 H0 F0 w0 Fe (m-1) k .ready asC rd.asq) (hBo:ue9 E WB l D Ds fnO tm ps asC bodyC rd.nOut ρ0 H0 F0 w0 Fe (m-1) k .busy bodyC rd.body) :
  YOk E Fe m n k rd λS=>I3 E.P WB (KR l Ds) (JI l D Ds fnO tm ps asC bodyC) n S (.func (.yield l) #[] #[]) noD ρ0 H0 F0 w0:=by
 intro ops i o S args g s s' xx ac w rest Q hi hy hg hgn hdn hlt hlen hI he hQ;obtain⟨⟨ρ,F,W',up,hI2⟩,hheld,hdf⟩:=hI;obtain⟨pe,v,hpe,rfl,hrec,hdd⟩:=hI2.core.jot
 obtain ⟨s1, h1, h2⟩ := DT.run_bind_some (show ((cd8 E s o.dst g fun s => match cd9 (hdA (j7 s.a n)) with
   |true=>(S7 E k rd.asq (Nd3 E s (args.map j8) n rd.nOut rd.ps)).bind λr0 =>
    f8.rec (motive:=λ_=>DT St) ((S7 E k rd.body r0.2).bind λr=>.ret (fd7 o.dst n rd.nOut r)) (λ_=>.fail) .fail r0.1
   |false=>.fail).bind λs=>.ret (f8.normal,s)).run=some (xx,s') from he)
 have h2:some (f8.normal,s1)=some (xx,s'):=h2;injection h2 with h2;injection h2 with e1 e2;subst e1 e2
 have hQ:=hQ rfl;simp only[wpOpsIn,hi]
 rcases uc0 hg hgn hI2.vals hI2.size h1 with⟨hw,hd⟩|⟨hw,rfl⟩
 case inr =>
  rw[if_neg (by simp[hw])]
  exact⟨λf _=>hF.fn f,hQ _ _ ⟨⟨ρ,F,W',_,by rw[E6];exact hI2.core,hI2.vals.putA hI2.size hdn (.w (.ofv _)),(ya7 _ _).trans hI2.size⟩,Bb1 hheld,by rw[E6];exact hdf⟩⟩
 rw[if_pos hw];have htl:ac.tmps.toList.length=n:=by rw[Array.length_toList];exact hI2.size
 have hup:VR ρ s.H F w (j7 s.a n) (v::tm):=hI2.vals.drop htl
 split at hd
 case h_2=>cases hd
 rename_i hnd;have hv0:v=.int .i64 (.ofNat 0):=by
  have:=hup.head
  rw[Qd7 hnd] at this;exact Ne0 this
 subst hv0;have hpe0:=Ne6 hpe;subst hpe0;have hrec:w.heap[l]?=some (jc1 .ready none fnO tm ps asC bodyC D):=hrec;obtain⟨⟨x0,s2⟩,h3,h4⟩:=DT.run_bind_some hd;cases x0 with
 |exit id=>cases h4
 |ret=>cases h4
 |normal =>
 obtain⟨⟨x2,s3⟩,h5,h6⟩:=DT.run_bind_some h4;have h6:some (fd7 o.dst n rd.nOut (x2,s3))=some s1:=h6;injection h6 with h6;subst h6
 -- the operation asks for a round
 unfold Fc5 at hy
 split at hy
 case h_2=>cases hy
 rename_i c ho
 split at hy
 case h_2=>cases hy
 rename_i t hcal;rw[hg] at hy
 simp only at hy
 split at hy
 case isFalse=>cases hy
 rename_i hS;injection hy with hy;have hev:ac.eval (.tmp t)=.func (.yield l) #[] #[]:=by
  have ht:=Oc1 hheld hS ((ic9 hg).1 hw);show ac.tmps.getD t undef=_;have hlt:=(Qeh.1 ht).1
  have:=(Qeh.1 ht).2
  simp[Array.getD,hlt,this]
 have hnd':∀c',o.op≠.defer c':=λc' e=>by rw[ho] at e;cases e
 have hasz:(c.args.map ac.eval).size=ps.size:=by
  rw[Array.size_map]
  have:c.args.toList.length=ps.toList.length:=by rw[hy,<- hps];exact hlen
  simpa using this
 have hyield:=run_yield (P:=E.P) (args:=c.args.map ac.eval) hrec hasz;have hsem:(o.semAt Fe.round ac.eval).run E.P w=.ok (.round l fnO ((ps.zip (c.args.map ac.eval)).foldl (λtmps (t,a)=>tmps.setIfInBounds t a) tm.toArray) asC bodyC) w:=by
  rw[Oper.semAt_eq _ _ _ hnd'];have e:(execOp ac.eval o).run E.P w=(Instr.yield l (c.args.map ac.eval)).run E.P w:=by
   have hres:resolve ac.eval c o.type=pure { target:=.fn (.yield l) #[],args:=c.args.map ac.eval }:=by
    unfold resolve;rw[hcal]
    simp only
    rw[hev];simp[Deferred.ofValue]
   have e1:execOp ac.eval o=(do let d <- resolve ac.eval c o.type;invoke d.target d.args):=by
    unfold execOp;rw[ho]
   rw[e1,hres];rfl
  rw[e];exact hyield
 refine⟨λf _=>hF.fn f,?_⟩
 rw[hsem,Oper.uponIn_round];refine⟨λhd=>hF.depS hd,roundIn_of_wpIn (hF.fn _) ?_⟩
 -- the round's frame
 have hm0:C2 E.P WB (KR l Ds) (JR l D Ds fnO tm ps asC bodyC .ready ac.tmps.toList) ρ0 H0 F0 w0 s.H [] w ρ F W' (ac.tmps.toList++Value.int .i64 (.ofNat 0)::tm):=hI2.core.re ⟨rfl,hrec,hdd⟩ qc9;have hbase:VR ρ s.H F w (N8 (j7 s.a (n+1)) rd.nOut) tm:=by
  have h0:VR ρ s.H F w s.a ((ac.tmps.toList++[Value.int .i64 (.ofNat 0)])++(tm++[])):=by simpa using hI2.vals
  exact (h0.drop (by simp[htl])).take hnO
 have hargs:∀(j:Nat) x x',(p5 (d7 E s.a) (args.map j8))[j]?=some x->(c.args.map ac.eval).toList[j]?=some x'->XW ρ s.H F w x x':=λj x x' hx hx'=>by
  rw[p6,List.map_map,Qeg] at hx;rw[Array.toList_map,hy,Qeg] at hx';cases hq:args[j]? with
  |none=>rw[hq] at hx;cases hx
  |some q =>
   rw[hq] at hx hx';injection hx with hx;injection hx' with hx'
   subst hx hx';rw[Qen] at hlt;exact Ib7 hI2.vals hI2.size (hG0.adv hI2.core.adv) q (hlt q (List.mem_of_getElem? hq))
 have hfr : I3 E.P WB (KR l Ds) (JR l D Ds fnO tm ps asC bodyC .ready ac.tmps.toList) rd.nOut [] undef noD ρ0 H0 F0 w0 (Nd3 E s (args.map j8) n rd.nOut rd.ps)
   { tmps:=(ps.zip (c.args.map ac.eval)).foldl (λtmps (t,a)=>tmps.setIfInBounds t a) tm.toArray,defers:=[] } w:=by
  refine⟨⟨ρ,F,W',_,hm0,?_,?_⟩,λt ht=>by simp at ht,rfl⟩
  ·show VR ρ s.H F w (app (Jf9 rd.ps (p5 (d7 E s.a) (args.map j8)) (N8 (j7 s.a (n+1)) rd.nOut)) s.a) _;refine VR.app ?_ hI2.vals;rw[kd8,hps]
   have:=Ce7 (ρ:=ρ) (H:=s.H) (F:=F) (w:=w) ps.toList (p5 (d7 E s.a) (args.map j8)) (c.args.map ac.eval).toList _ tm (by rw[p6];simp[hlen,hps]) (by rw[Array.length_toList,hasz,Array.length_toList]) hargs hbase
   simpa using this
  ·rw[fe2];simpa using hnO
 refine hAs ac.tmps.toList _ .normal s2 h3 _ w _ hfr λac1 w1 hI1=>?_
 obtain⟨⟨ρ1,F1,W1,up1,hI1⟩,_,hdf1⟩:=hI1;obtain⟨rfl,hrec1,hdd1⟩:=hI1.core.jot;refine⟨_,run_beginRound hrec1 rfl,?_⟩;have hKl:KR l Ds l:=.inl rfl;obtain⟨b1,b2⟩:=hI1.core.turn (J':=JR l D Ds fnO tm ps asC bodyC .busy ac.tmps.toList) (up':=ac.tmps.toList++Value.int .i64 (.ofNat 0)::tm) (ds':=ac1.defers) l _ (jc1 .busy none fnO tm ps asC bodyC D) hrec1 (λ_ _ _ e=>by cases e) (λ_ _ e=>by cases e) hWl (hI1.core.kept l hKl).1
  ⟨rfl,World.putObj_heap_same (hI1.core.kept l hKl).2,hdd1.turn hrec1 _⟩ (by have:ac1.defers=[]:=hdf1;rw[this];exact qc9)
 refine hBo ac.tmps.toList s2 x2 s3 h5 ac1 _ _ ⟨⟨ρ1,F1,W1,_,b1,hI1.vals.tr b2,hI1.size⟩,λt ht=>by simp at ht,hdf1⟩ λac2 w2 hI3=>?_
 obtain⟨⟨ρ2,F2,W2,up2,hI3⟩,_,hdf3⟩:=hI3;obtain⟨rfl,hrec2,hdd2⟩:=hI3.core.jot;have hdefs:ac.defers=[]:=hdf;have hkl:=(hI3.core.kept l hKl);have hdrop:VR ρ2 s3.H F2 w2 (j7 s3.a rd.nOut) (ac.tmps.toList++Value.int .i64 (.ofNat 0)::tm):=hI3.vals.drop (by rw[Array.length_toList];exact hI3.size)
 have hfin:∀(pe:Option Code) (v:Value),Oc4 pe=some v->C2 E.P WB (KR l Ds) (JI l D Ds fnO tm ps asC bodyC) ρ0 H0 F0 w0 s3.H [] (w2.putObj l (jc1 (if pe.isNone then .ready else .done) pe fnO tm ps asC bodyC D)) ρ2 F2 W2 (v::tm)/\Tr ρ2 s3.H F2 w2 ρ2 s3.H F2 (w2.putObj l (jc1 (if pe.isNone then .ready else .done) pe fnO tm ps asC bodyC D)):=λpe v hpe =>
  hI3.core.turn l _ _ hrec2 (λ_ _ _ e=>by cases e) (λ_ _ e=>by cases e) hWl hkl.1 ⟨pe,v,hpe,rfl,World.putObj_heap_same hkl.2,hdd2.turn hrec2 _⟩ qc9
 cases x2 with
 |normal =>
  refine⟨_,_,run_endRound none hrec2,hQ _ _ ?_⟩;obtain⟨c1,c2⟩:=hfin none _ rfl;exact⟨⟨ρ2,F2,W2,_,by rw[E6,hdefs];exact c1,(hdrop.tr c2).putA hI2.size hdn (.w (.val (.cell (.v _)))),(ya7 _ _).trans hI2.size⟩,Bb1 hheld,by rw[E6];exact hdf⟩
 |ret =>
  refine⟨_,_,run_endRound (some .ret) hrec2,hQ _ _ ?_⟩;obtain⟨c1,c2⟩:=hfin (some .ret) _ rfl;exact⟨⟨ρ2,F2,W2,_,by rw[E6,hdefs];exact c1,((hdrop.tr c2).setUp htl (.w (.val (.cell (.v _))))).putA hI2.size hdn (.w (.val (.cell (.v _)))),(ya7 _ _).trans hI2.size⟩,Bb1 hheld,by rw[E6];exact hdf⟩
 |exit id =>
  refine⟨_,_,run_endRound (some (.exit id)) hrec2,hQ _ _ ?_⟩;obtain⟨c1,c2⟩:=hfin (some (.exit id)) _ rfl;exact⟨⟨ρ2,F2,W2,_,by rw[E6,hdefs];exact c1,((hdrop.tr c2).setUp htl (.w (.val (.cell (.v _))))).putA hI2.size hdn (.w (.val (.cell (.v _)))),(ya7 _ _).trans hI2.size⟩,Bb1 hheld,by rw[E6];exact hdf⟩
end
end Go.Ev
