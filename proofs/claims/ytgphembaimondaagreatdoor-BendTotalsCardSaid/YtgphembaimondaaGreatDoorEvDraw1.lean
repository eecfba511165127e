/- Own work. -/
import Derived.Test.YtgphembaimondaaGreatDoorEvJoin
import Derived.LoopN
import Derived.Scope
set_option linter.all false
noncomputable section
def Qca:=@List.mem_of_getElem?
def Qcb:=@List.getElem?_set_self
def Qcc:=@List.getElem?_mapIdx
def Qcd:=@List.ext_getElem?
def Qce:=@Option.map_eq_some_iff
def Qcf:=@List.all_eq_true
def Qcg:=@List.mem_append_right
def Qch:=@Nat.blt_eq
def Qci:=@List.map_congr_left
def Qcj:=@List.mem_range
def Qck:=@List.mem_cons_self
def Qcl:=@List.any_eq_false
def Qcm:=@List.getElem_inj
def Qcn:=@List.mem_cons_of_mem
namespace Go.Ev
open Go
section
variable{W:Nat->Prop}{ρ ρ1:Rho}{H H2 blks out:List c7}{F F1:Fz}{w w1:World}
theorem Ra3:∀(l:List Nat) (k id j:Nat),Ia8 id k l=some j->k<=j/\l[j-k]?=some id
 |[],k,id,j,h=>by simp[Ia8] at h
 |x::l,k,id,j,h=>by
  simp only[Ia8] at h;cases hb:Nat.beq x id with
  |true =>
   simp_all
  |false =>
   simp only[hb] at h;obtain⟨h1,h2⟩:=Ra3 l (k+1) id j h
   grind
theorem Ra4:∀(l:List Nat) (k id:Nat),Ia8 id k l=none->id∉l
 |[],k,id,_=>by simp
 |x::l,k,id,h=>by
  simp only[Ia8] at h;cases hb:Nat.beq x id with
  |true=>simp[hb] at h
  |false =>
   simp only[hb] at h;have h1:=Ra4 l (k+1) id h
   have:=Qbae hb
   grind
def bb0(roots:List Nat)(id:Nat):Option Nat:=Ia8 id 0 roots
theorem ma7{roots:List Nat}{id j:Nat}(h:bb0 roots id=some j):roots[j]?=some id:=by
 have:=(Ra3 roots 0 id j h).2
 simpa using this
theorem xc9{roots:List Nat}{id j:Nat}(hn:roots.Nodup)(h:roots[j]?=some id):bb0 roots id=some j:=by
 cases hp:bb0 roots id with
 |none=>exact absurd (Qca h) (Ra4 roots 0 id hp)
 |some j' =>
  have h':=ma7 hp;have hj:=(Qab.1 h);have hj':=(Qab.1 h');obtain⟨a1,a2⟩:=hj;obtain⟨b1,b2⟩:=hj'
  have:=(Qcm hn).1 (b2.trans a2.symm)
  rw[this]
theorem yc0{roots r:List Nat}{id j:Nat}(hn:roots.Nodup)(h:ma6 roots id=(j,r)):r[j]?=some id/\r.Nodup/\(∀(i:Nat) y,roots[i]?=some y->r[i]?=some y)/\∀y∈r,y∈roots\/y=id:=by
 unfold ma6 at h
 split at h
 ·rename_i j' hj;injection h with e1 e2;subst e1 e2;exact⟨ma7 hj,hn,λ_ _ h=>h,λy hy=>.inl hy⟩
 ·rename_i hj;have hnm:=Ra4 roots 0 id hj;rw[l6,E0] at h
  grind
structure Ua8(H:List c7)(p:ka4):Prop where
 nodup:p.roots.Nodup
 live:∀id∈p.roots,∃b,H[id]?=some b/\b.dead=false
 lent:∀id∈p.lent,∃b,H[id]?=some b/\b.dead=false
def Na3(p q:ka4):Prop:=(∀(i:Nat) y,p.roots[i]?=some y->q.roots[i]?=some y)/\∀y∈p.lent,y∈q.lent
theorem Na3.refl(p:ka4):Na3 p p:=⟨λ_ _ h=>h,λ_ h=>h⟩
theorem Na3.trans{p q r:ka4}(h:Na3 p q)(k:Na3 q r):Na3 p r:=⟨λi y hy=>k.1 i y (h.1 i y hy),λy hy=>k.2 y (h.2 y hy)⟩
inductive PrC (H:List c7) (p:ka4):b9->b9->Prop
 |v (u:Value):PrC H p (.v u) (.v u)
 |ptr (id i c g j:Nat) (b:c7) (hb:blkAt H id g=some b) (hj:p.roots[j]?=some id):PrC H p (.ptr id i c g) (.ptr j i c 0)
 |tree (es n:Nat) (get:Nat->List b9):PrC H p (.tree es n get) (.tree es n get)
 |tptr (cs:List b9):PrC H p (.tptr cs) (.tptr cs)
 |lend (id off n g:Nat) (b:c7) (hb:blkAt H id g=some b) (hl:id∈p.lent):PrC H p (.sl id off n g) (wb0 b off n)
 |fn (f:FuncId):PrC H p (.fn f []) (.fn f [])
inductive PrV (H:List c7) (p:ka4):b9->b9->Prop
 |cell {x z:b9} (h:PrC H p x z):PrV H p x z
 |agg (cs ds:List b9) (hl:ds.length=cs.length) (h:∀(i:Nat) x z,cs[i]?=some x->ds[i]?=some z->PrC H p x z):PrV H p (.agg cs) (.agg ds)
 |fn (f:FuncId) (cs ds:List b9) (hl:ds.length=cs.length) (h:∀(i:Nat) x z,cs[i]?=some x->ds[i]?=some z->PrC H p x z):PrV H p (.fn f cs) (.fn f ds)
 |sl (id n g j:Nat) (b:c7) (hb:blkAt H id g=some b) (hj:p.roots[j]?=some id):PrV H p (.sl id 0 n g) (.sl j 0 n 0)
theorem PrC.le{p q:ka4}{x z:b9}(h:PrC H p x z)(hle:Na3 p q):PrC H q x z:=by
 cases h with
 |v u=>exact .v u
 |ptr id i c g j b hb hj=>exact .ptr id i c g j b hb (hle.1 _ _ hj)
 |tree es n get=>exact .tree es n get
 |tptr cs=>exact .tptr cs
 |lend id off n g b hb hl=>exact .lend id off n g b hb (hle.2 _ hl)
 |fn f=>exact .fn f
theorem PrV.le{p q:ka4}{x z:b9}(h:PrV H p x z)(hle:Na3 p q):PrV H q x z:=by
 cases h with
 |cell h=>exact .cell (h.le hle)
 |agg cs ds hl h=>exact .agg cs ds hl λi x z hx hz=>(h i x z hx hz).le hle
 |fn f cs ds hl h=>exact .fn f cs ds hl λi x z hx hz=>(h i x z hx hz).le hle
 |sl id n g j b hb hj=>exact .sl id n g j b hb (hle.1 _ _ hj)
theorem cc9{p q:ka4}{x z:b9}(hp:Ua8 H p)(h:capArg H p x=some (z,q)):Ua8 H q/\Na3 p q/\PrC H q x z:=by
 unfold capArg at h
 split at h
 ·injection h with h;injection h with e1 e2;subst e1 e2;exact⟨hp,.refl p,.v _⟩
 ·rename_i id i c g;cases hb:blkAt H id g with
  |none=>simp[hb] at h
  |some b =>
  obtain⟨hb1,hb2,hb3⟩:=p5 hb;simp only[hb] at h;cases hi:ma6 p.roots id with
  |mk j r =>
  simp only[hi] at h;injection h with h;injection h with e1 e2;subst e1 e2
  obtain⟨h1,h2,h3,h4⟩:=yc0 hp.nodup hi;refine⟨⟨h2,λy hy=>?_,hp.lent⟩,⟨h3,λy hy=>hy⟩,.ptr id i c g j b hb h1⟩
  rcases h4 y hy with h|rfl
  ·exact hp.live y h
  ·exact⟨b,hb1,hb2⟩
 ·injection h with h;injection h with e1 e2;subst e1 e2;exact⟨hp,.refl p,.tree _ _ _⟩
 ·injection h with h;injection h with e1 e2;subst e1 e2;exact⟨hp,.refl p,.tptr _⟩
 ·rename_i id off n g;cases hb:blkAt H id g with
  |none=>simp[hb] at h
  |some b =>
  obtain⟨hb1,hb2,hb3⟩:=p5 hb;simp only[hb] at h;injection h with h;injection h with e1 e2;subst e1 e2
  refine⟨⟨hp.nodup,hp.live,λy hy=>?_⟩,⟨λ_ _ h=>h,λy hy=>by simp[hy]⟩,.lend id off n g b hb (by simp)⟩
  rcases Qbp.1 hy with rfl|hy
  ·exact⟨b,hb1,hb2⟩
  ·exact hp.lent y hy
 ·injection h with h;injection h with e1 e2;subst e1 e2;exact⟨hp,.refl p,.fn _⟩
 ·cases h
theorem Pb0:∀{xs zs:List b9} {p q:ka4},Ua8 H p->capArgs H p xs=some (zs,q)->Ua8 H q/\Na3 p q/\zs.length=xs.length/\∀(i:Nat) x z,xs[i]?=some x->zs[i]?=some z->PrC H q x z
 |[],zs,p,q,hp,h=>by
  simp only[capArgs] at h;injection h with h;injection h with e1 e2;subst e1 e2
  exact⟨hp,.refl p,rfl,λi x z hx=>by simp at hx⟩
 |x::xs,zs,p,q,hp,h=>by
  simp only[capArgs] at h;cases h1:capArg H p x with
  |none=>simp[h1] at h
  |some yq =>
  obtain⟨y,p1⟩:=yq;simp only[h1] at h;cases h2:capArgs H p1 xs with
  |none=>simp[h2] at h
  |some lq =>
  obtain⟨l,p2⟩:=lq;simp only[h2] at h;injection h with h;injection h with e1 e2;subst e1 e2
  obtain⟨a1,a2,a3⟩:=cc9 hp h1;obtain⟨b1,b2,b3,b4⟩:=Pb0 a1 h2;refine⟨b1,a2.trans b2,by simp[b3],λi u z hu hz=>?_⟩
  cases i with
  |zero=>simp at hu hz;subst hu hz;exact a3.le b2
  |succ i=>exact b4 i u z (by simpa using hu) (by simpa using hz)
theorem zd8{p q:ka4}{own:Bool}{x z:b9}(hp:Ua8 H p)(h:prepArg H own p x=some (z,q)):Ua8 H q/\Na3 p q/\PrV H q x z:=by
 unfold prepArg at h
 split at h
 ·injection h with h;injection h with e1 e2;subst e1 e2;exact⟨hp,.refl p,.cell (.v _)⟩
 ·rename_i id off n g
  split at h
  ·cases hb:blkAt H id g with
   |none=>simp[hb] at h
   |some b =>
   obtain⟨hb1,hb2,hb3⟩:=p5 hb;simp only[hb] at h;cases hc:Nat.beq off 0 with
   |false=>simp[hc] at h
   |true =>
   simp only[hc] at h;have h0:=Qae hc;subst h0;cases hi:ma6 p.roots id with
   |mk j r =>
   simp only[hi] at h;injection h with h;injection h with e1 e2;subst e1 e2
   obtain⟨h1,h2,h3,h4⟩:=yc0 hp.nodup hi;refine⟨⟨h2,λy hy=>?_,hp.lent⟩,⟨h3,λy hy=>hy⟩,.sl id n g j b hb h1⟩
   rcases h4 y hy with h|rfl
   ·exact hp.live y h
   ·exact⟨b,hb1,hb2⟩
  ·obtain⟨a1,a2,a3⟩:=cc9 hp h;exact⟨a1,a2,.cell a3⟩
 ·cases h1:capArgs H p _ with
  |none=>rw[h1] at h;cases h
  |some lq =>
  obtain⟨l,p2⟩:=lq;rw[h1] at h;injection h with h;injection h with e1 e2;subst e1 e2
  obtain⟨b1,b2,b3,b4⟩:=Pb0 hp h1;exact⟨b1,b2,.agg _ _ b3 b4⟩
 ·cases h1:capArgs H p _ with
  |none=>rw[h1] at h;cases h
  |some lq =>
  obtain⟨l,p2⟩:=lq;rw[h1] at h;injection h with h;injection h with e1 e2;subst e1 e2
  obtain⟨b1,b2,b3,b4⟩:=Pb0 hp h1;exact⟨b1,b2,.fn _ _ _ b3 b4⟩
 ·obtain⟨a1,a2,a3⟩:=cc9 hp h;exact⟨a1,a2,.cell a3⟩
theorem xb3{own:Nat->Bool}:∀{xs zs:List b9} {p q:ka4} {k:Nat},Ua8 H p->prepArgs H own p k xs=some (zs,q)->Ua8 H q/\Na3 p q/\zs.length=xs.length/\∀(i:Nat) x z,xs[i]?=some x->zs[i]?=some z->PrV H q x z
 |[],zs,p,q,k,hp,h=>by
  simp only[prepArgs] at h;injection h with h;injection h with e1 e2;subst e1 e2
  exact⟨hp,.refl p,rfl,λi x z hx=>by simp at hx⟩
 |x::xs,zs,p,q,k,hp,h=>by
  simp only[prepArgs] at h;cases h1:prepArg H (own k) p x with
  |none=>simp[h1] at h
  |some yq =>
  obtain⟨y,p1⟩:=yq;simp only[h1] at h;cases h2:prepArgs H own p1 (k+1) xs with
  |none=>simp[h2] at h
  |some lq =>
  obtain⟨l,p2⟩:=lq;simp only[h2] at h;injection h with h;injection h with e1 e2;subst e1 e2
  obtain⟨a1,a2,a3⟩:=zd8 hp h1;obtain⟨b1,b2,b3,b4⟩:=xb3 a1 h2;refine⟨b1,a2.trans b2,by simp[b3],λi u z hu hz=>?_⟩
  cases i with
  |zero=>simp at hu hz;subst hu hz;exact a3.le b2
  |succ i=>exact b4 i u z (by simpa using hu) (by simpa using hz)
theorem Ta7:∀{roots:List Nat} {blks:List c7},blksAt H roots=some blks->blks.length=roots.length/\∀(j:Nat) id,roots[j]?=some id->∃b,H[id]?=some b/\blks[j]?=some { b with g:=0 }
 |[],blks,h=>by
  simp only[blksAt] at h
  simp_all
 |id::roots,blks,h=>by
  simp only[blksAt,p9] at h;cases hb:H[id]? with
  |none=>simp[hb] at h
  |some b =>
  simp only[hb] at h;cases hr:blksAt H roots with
  |none=>simp[hr] at h
  |some l =>
  simp only[hr] at h;injection h with h;subst h
  obtain⟨h1,h2⟩:=Ta7 hr
  grind
theorem PrC.rel{p:ka4}{x z:b9}{x':Value}(hH:r4 W ρ H F w)(hbl:blksAt H p.roots=some blks)(inv:Nat->Nat)(hinv:∀(j:Nat) id,p.roots[j]?=some id->inv j=id)
  (h:PrC H p x z) (hx:J9 ρ H F w x x'):J9 (λj=>ρ (inv j)) blks (Rc0 ρ H F (·∈p.lent)) w z x':=by
 obtain⟨hl,hat⟩:=Ta7 hbl;have hmore:∀b o,F b o->Rc0 ρ H F (·∈p.lent) b o:=λb o h=>.inl h
 cases h with
 |v u =>
  have:=K5 (.val (.cell hx))
  subst this;exact .v _
 |ptr id i c g j b hb hj =>
  obtain⟨ad,b',e,hb1,hd1,hg1,hh⟩:=la0 (.val (.cell hx));obtain⟨hb2,hd2,hg2⟩:=p5 hb
  have:b'=b:=Qah (hb1.symm.trans hb2)
  subst this;obtain⟨b3,hb3,hb4⟩:=hat j id hj
  have:b3=b':=Qah (hb3.symm.trans hb1)
  subst this;rw[e];refine .ptr j i c 0 ad _ hb4 hd1 (Nat.zero_le _) λ_=>?_
  simp_all
 |tree es n get =>
  have ht:=aa8 (.val (.cell hx));exact .mem (ht.adv hmore λ_ _ _=>rfl)
 |tptr cs =>
  obtain⟨ad,vs,e,hs,hF,hw,hr⟩:=Ua2 (.val (.cell hx));rw[e];exact .tptr cs ad vs hs (λc hc=>hmore _ _ (hF c hc)) hw λc hc=>(hr c hc).adv hmore λ_ _ _=>rfl
 |lend id off n g b hb hl =>
  obtain⟨hb2,hd2,hg2⟩:=p5 hb;refine .mem (cc7 hH hb (.val (.cell hx)) hmore λo ho=>?_)
  obtain⟨cc,t,fr,hB⟩:=hH.blk id b hb2 hd2;cases hown:b.own with
  |false=>exact .inl (hB.kept hown o ho)
  |true=>exact .inr ⟨id,b,hl,hb2,hown,rfl,by omega,by omega⟩
 |fn f =>
  cases hx with
  |mem h=>cases h with
   |fn _ _ vs _ e hl =>
    have:vs=#[]:=by simpa using hl.symm
    rw[e,this,Ta6];exact .mem (.fn0 f)
theorem PrV.rel{p:ka4}{x z:b9}{x':Value}(hH:r4 W ρ H F w)(hbl:blksAt H p.roots=some blks)(inv:Nat->Nat)(hinv:∀(j:Nat) id,p.roots[j]?=some id->inv j=id)
  (h:PrV H p x z) (hx:v8 ρ H F w x x'):v8 (λj=>ρ (inv j)) blks (Rc0 ρ H F (·∈p.lent)) w z x':=by
 obtain⟨hl,hat⟩:=Ta7 hbl;cases h with
 |cell h =>
  have hc:J9 ρ H F w x x'\/∃f,x=.fn f []/\z=.fn f []:=by
   cases hx with
   |val hx=>cases hx with
    |cell hx=>exact .inl hx
    |agg=>cases h
    |fn f caps vs hl h'=>cases h;exact .inr ⟨_,rfl,rfl⟩
   |tup=>cases h
  rcases hc with hc|⟨f,rfl,rfl⟩
  ·exact .val (.cell (h.rel hH hbl inv hinv hc))
  ·obtain⟨vs,e,hl,_⟩:=eb9 hx
   have:vs=#[]:=by simpa using hl.symm
   rw[e,this,Ta6];exact .val (.cell (.mem (.fn0 f)))
 |agg cs ds hl2 h =>
  obtain⟨vs,e,hl3,h3⟩:=ga4 hx;rw[e];exact .val (.agg ds vs (hl2.trans hl3) λi y y' hy hy'=>by
   have hi:i<cs.length:=hl2 ▸ (Qab.1 hy).1;exact (h i _ y (Qaa hi) hy).rel hH hbl inv hinv (h3 i _ y' (Qaa hi) hy'))
 |fn f cs ds hl2 h =>
  obtain⟨vs,e,hl3,h3⟩:=eb9 hx;rw[e];exact .val (.fn f ds vs (hl2.trans hl3) λi y y' hy hy'=>by
   have hi:i<cs.length:=hl2 ▸ (Qab.1 hy).1;exact (h i _ y (Qaa hi) hy).rel hH hbl inv hinv (h3 i _ y' (Qaa hi) hy'))
 |sl id n g j b hb hj =>
  obtain⟨ad,cap,b',e,hb1,hd1,hg1,hn1,hs1,hm1,hh⟩:=wa9 hx;obtain⟨hb2,hd2,hg2⟩:=p5 hb
  have:b'=b:=Qah (hb1.symm.trans hb2)
  subst this;obtain⟨b3,hb3,hb4⟩:=hat j id hj
  have:b3=b':=Qah (hb3.symm.trans hb1)
  subst this;rw[e];refine .val (.cell (.sl j 0 n 0 ad cap _ hb4 hd1 (Nat.zero_le _) hn1 hs1 hm1 λ_=>?_))
  simp_all
end
section
variable{W:Nat->Prop}{ρ ρ1:Rho}{H H2 blks out:List c7}{F F1:Fz}{w w1:World}
theorem ld8(H:List c7)(id:Nat)(f:c7->c7)(b:c7)(hb:H[id]?=some b):modAt H id f=H.set id (f b):=by
 simp[modAt,p9,hb,r6]
theorem Rc1(H:List c7)(id:Nat)(f:c7->c7):(modAt H id f).length=H.length:=by
 unfold modAt;split
 ·rw[r6];simp
 ·rfl
theorem yc1:∀{roots:List Nat} {H out H2:List c7},roots.Nodup->(∀id∈roots,id<H.length)->putBack H roots out=some H2 ->
  roots.length<=out.length/\H2.length=H.length+(out.length-roots.length) /\
  (∀(j:Nat) id,roots[j]?=some id->∃b c,H[id]?=some b/\out[j]?=some c/\H2[id]?=some { c with g:=b.g+c.g }) /\
  (∀id,id<H.length->id∉roots->H2[id]?=H[id]?)/\∀i,H2[H.length+i]?=out[roots.length+i]?
 |[],H,out,H2,_,_,h=>by
  have h2:H2=H++out:=by
   cases out with
   |nil=>simp[putBack] at h;simp[h]
   |cons c out=>simp[putBack,E0] at h;exact h.symm
  grind
 |id::roots,H,[],H2,_,_,h=>by simp[putBack] at h
 |id::roots,H,c::out,H2,hn,hlt,h=>by
  simp only[putBack] at h;have hid:=hlt id (by simp)
  have hb:=Qaa hid;rw[ld8 H id _ _ hb] at h;obtain⟨hn1,hn2⟩:=List.nodup_cons.1 hn;obtain⟨h1,h2,h3,h4,h5⟩:=yc1 hn2 (λid' h'=>by simp;exact hlt id' (by simp[h'])) h
  simp only[List.length_set] at h2 h4 h5;refine⟨by simp;omega,by simp only[List.length_cons];omega,λj id' hj=>?_,λid' hid' hni=>?_,λi=>?_⟩
  ·cases j with
   |zero =>
    simp at hj
    subst hj;refine⟨_,c,hb,rfl,?_⟩;rw[h4 id hid hn1,Qcb hid]
   |succ j =>
    obtain⟨b',c',g1,g2,g3⟩:=h3 j id' (by simpa using hj)
    have hne:id≠id':=λe=>by subst e;exact hn1 (Qca (by simpa using hj))
    rw[Qaf hne] at g1;exact⟨b',c',g1,by simpa using g2,g3⟩
  ·have hne:id≠id':=λe=>hni (by simp[e])
   rw[h4 id' hid' (λh=>hni (by simp[h])),Qaf hne]
  ·rw[h5 i];simp only[List.length_cons];rw[show roots.length+1+i=(roots.length+i)+1 by omega]
   simp
theorem bb1(id:Nat)(lent:List Nat)(held:Bool)(H:List c7):settle (id::lent) held H=if held then disown (settle lent held H) id else settle lent held H:=by
 have e:settle (id::lent) held H=modAt (settle lent held H) id λb=>{ b with own:=Bool.rec b.own false held }:=rfl
 rw[e];cases held with
 |true=>rfl
 |false =>
  show modAt (settle lent false H) id (λb=>b)=settle lent false H
  unfold modAt;rw[p9];cases h:(settle lent false H)[id]? with
  |none=>rfl
  |some b =>
   show setAt (settle lent false H) id b=_;rw[r6];apply Qcd
   grind
theorem Rc2(held:Bool)(H:List c7):∀(lent:List Nat),(settle lent held H).length=H.length /\
  ∀(id:Nat) b2,(settle lent held H)[id]?=some b2->∃b,H[id]?=some b/\b2={ b with own:=b2.own }/\(b2.own=b.own\/(held=true/\id∈lent/\b2.own=false))/\(held=true->id∈lent->b2.own=false)
 |[]=>⟨rfl,λid b2 h=>⟨b2,h,rfl,.inl rfl,λ_ h=>by simp at h⟩⟩
 |l::lent=>by
  obtain⟨h1,h2⟩:=Rc2 held H lent;rw[bb1];cases held with
  |false =>
   simp_all
  |true =>
   simp only[if_true];refine⟨by simp[disown,Rc1,h1],λid b2 hb=>?_⟩
   by_cases hl:l=id
   ·subst hl;have hlt:l<(settle lent true H).length:=by
     have:=(Qab.1 hb).1
     simpa [disown,Rc1] using this
    have hg:=Qaa hlt;obtain⟨b,g1,g2,g3,g4⟩:=h2 l _ hg;unfold disown at hb;rw[ld8 _ l _ _ hg,Qcb hlt] at hb
    grind
   ·have hb' : (settle lent true H)[id]? = some b2 := by
     unfold disown modAt at hb
     split at hb
     ·rwa [r6,Qaf hl] at hb
     ·exact hb
    grind
theorem dc0:∀{l r:List Nat},Ua1 l r=true->∀x∈l,x∉r
 |[],_,_,x,hx=>by simp at hx
 |y::l,r,h,x,hx=>by
  have h':(Bool.rec (Ua1 l r) false (Ma5 y r):Bool)=true:=h;cases hm:Ma5 y r with
  |true=>rw[hm] at h';cases h'
  |false =>
   rw[hm] at h'
   rcases Qbp.1 hx with rfl|hx
   ·rw[we3] at hm;simpa using hm
   ·exact dc0 h' x hx
theorem ld9{p:ka4}{held:Bool}(hp:Ua8 H p)(hbl:blksAt H p.roots=some blks)(hap:Ua1 p.lent p.roots=true)(hpb:putBack H p.roots out=some H2) :
  ld6 H blks out (settle p.lent held H2) (bb0 p.roots) (·∈p.lent) (held=true):=by
 obtain⟨hl,hat⟩:=Ta7 hbl;have hlt:∀id∈p.roots,id<H.length:=λid hid=>by
  obtain⟨b,hb,_⟩:=hp.live id hid;exact (Qab.1 hb).1
 obtain⟨g1,g2,g3,g4,g5⟩:=yc1 hp.nodup hlt hpb;obtain⟨s1,s2⟩:=Rc2 held H2 p.lent;have hnone:∀id,bb0 p.roots id=none->id∉p.roots:=λid h=>Ra4 _ _ _ h
 have hnot:∀id,id∈p.lent->bb0 p.roots id=none:=λid hid=>by
  cases h:bb0 p.roots id with
  |none=>rfl
  |some j=>exact absurd (Qca (ma7 h)) (dc0 hap id hid)
 refine⟨λid j h=>?_,λid id' j h h'=>?_,λj hj=>?_,λid j b h hb=>?_,λid h=>⟨hnot id h,hp.lent id h⟩,by omega,λid b2 hid hn hb2=>?_,λid b2 hh hm hb2=>?_,λid j b2 h hb2=>?_,λid b2 hge hb2=>?_,by rw[s1,g2,hl]⟩
 ·have h1:=ma7 h;exact⟨hlt id (Qca h1),by rw[hl];exact (Qab.1 h1).1⟩
 ·have h1:=ma7 h;have h2:=ma7 h';exact Qah (h1.symm.trans h2)
 ·rw[hl] at hj;exact⟨p.roots[j],xc9 hp.nodup (Qaa hj)⟩
 ·have h1:=ma7 h;obtain⟨b',hb',hb2⟩:=hat j id h1
  have:b'=b:=Qah (hb'.symm.trans hb)
  subst this;obtain⟨b3,hb3,hd3⟩:=hp.live id (Qca h1)
  have:b3=b':=Qah (hb3.symm.trans hb)
  subst this;exact⟨hb2,hd3⟩
 ·obtain⟨b,k1,k2,k3,_⟩:=s2 id b2 hb2;rw[g4 id hid (hnone id hn)] at k1;refine⟨b,k1,k2,?_⟩
  rcases k3 with k3|⟨a1,a2,a3⟩
  ·exact .inl k3
  ·exact .inr ⟨a1,a2,a3⟩
 ·obtain⟨b,k1,k2,k3,k4⟩:=s2 id b2 hb2;exact k4 hh hm
 ·have h1:=ma7 h;obtain⟨b,c,k1,k2,k3⟩:=g3 j id h1;obtain⟨b',m1,m2,m3,_⟩:=s2 id b2 hb2
  have:b'={ c with g:=b.g+c.g }:=Qah (m1.symm.trans k3)
  subst this;refine⟨b,c,k1,k2,?_⟩
  rcases m3 with m3|⟨_,m4,_⟩
  ·rw[m2,m3]
  ·exact absurd (hnot id m4) (by rw[h];simp)
 ·obtain⟨b',m1,m2,m3,_⟩:=s2 id b2 hb2;have e:id=H.length+(id-H.length):=by omega
  rw[e,g5] at m1;rw[hl]
  rcases m3 with m3|⟨_,m4,_⟩
  ·have:b2=b':=by rw[m2,m3]
   rw[this];exact m1
  ·obtain⟨b3,hb3,_⟩:=hp.lent id m4
   have:=(Qab.1 hb3).1
   omega
def Zc1:b9->Bool
 |.agg _ | .tup _ | .fn _ _=>false
 |_=>true
theorem Rc3{p:ka4}{held:Bool}(hp:Ua8 H p)(hbl:blksAt H p.roots=some blks)(hap:Ua1 p.lent p.roots=true)(hpb:putBack H p.roots out=some H2){j g id g':Nat}{c:c7}(hc:out[j]?=some c)
  (hid:backId H p.roots j g=(id,g')):∃b2,(settle p.lent held H2)[id]?=some b2/\(∃n,b2={ c with g:=n+c.g }/\g'=n+g)/\ca7 ρ ρ1 H.length blks.length (bb0 p.roots) id=ρ1 j:=by
 have hS:=ld9 (held:=held) hp hbl hap hpb;obtain⟨hl,hat⟩:=Ta7 hbl;unfold backId at hid;rw[p9] at hid;cases hr:p.roots[j]? with
 |some id0 =>
  obtain⟨b,hb,_⟩:=hat j id0 hr;simp only[hr,p9,hb] at hid;injection hid with e1 e2;subst e1 e2;have hpos:=xc9 hp.nodup hr;have hlt2:id0<(settle p.lent held H2).length:=by have:=hS.len;have:=(hS.posLt id0 j hpos).1;omega
  obtain⟨b',c',k1,k2,k3⟩:=hS.root id0 j _ hpos (Qaa hlt2)
  have:b'=b:=Qah (k1.symm.trans hb)
  subst this
  have:c'=c:=Qah (k2.symm.trans hc)
  subst this;exact⟨_,Qaa hlt2,⟨b'.g,k3,rfl⟩,by simp[ca7,hpos]⟩
 |none =>
  simp only[hr,l6] at hid;injection hid with e1 e2;subst e1 e2;have hjl:=(Qab.1 hc).1;have hjge:p.roots.length<=j:=by
   simp_all
  have hlt2:H.length+(j-p.roots.length)<(settle p.lent held H2).length:=by have:=hS.len;omega
  have hn:=hS.new _ _ (by omega) (Qaa hlt2)
  have e:blks.length+(H.length+(j-p.roots.length)-H.length)=j:=by omega
  rw[e] at hn;have hbc:=Qah (hn.symm.trans hc);refine⟨_,Qaa hlt2,⟨0,by rw[hbc];simp,by simp⟩,?_⟩
  have hnn:bb0 p.roots (H.length+(j-p.roots.length))=none:=by
   cases h:bb0 p.roots (H.length+(j-p.roots.length)) with
   |none=>rfl
   |some j'=>have:=(hS.posLt _ _ h).1;omega
  have hnl:¬ (H.length+(j-p.roots.length)<H.length):=by omega
  simp only[ca7,hnn,if_neg hnl];rw[e]
section
variable{p:ka4}{held:Bool}(hp:Ua8 H p)(hbl:blksAt H p.roots=some blks)(hap:Ua1 p.lent p.roots=true)(hpb:putBack H p.roots out=some H2)
include hp hbl hap hpb
theorem Fb5{x:b9}{x':Value}(hx:J9 ρ1 out F1 w1 x x')(hh:held=true\/ra7 x=false) :
  J9 (ca7 ρ ρ1 H.length blks.length (bb0 p.roots)) (settle p.lent held H2) (Kb4 ρ H F F1 (·∈p.lent) (held=true)) w1 (backC H p.roots x) x':=by
 have hm:∀{y y'},J8 F1 w1 y y'->(held=true\/ra7 y=false)->J8 (Kb4 ρ H F F1 (·∈p.lent) (held=true)) w1 y y':=λ{y y'} h hh=>by
  rcases hh with hh|hh
  ·exact h.adv (λb o h=>⟨h,.inl hh⟩) (λ_ _ _=>rfl)
  ·exact h.bare hh
 cases hx with
 |mem h =>
  cases h with
  |v u h1=>exact .v _
  |fn f caps vs _ e hl hb h=>exact .mem (hm (.fn f caps vs _ e hl hb h) hh)
  |tree es n get ad cap cs hs hcap hes hF hw hr =>
   have hh':held=true:=hh.resolve_right (by simp[ra7])
   exact .mem (hm (.tree es n get ad cap cs hs hcap hes hF hw hr) (.inl hh'))
  |nil es get=>exact .mem (.nil es get)
  |tptr cs ad vs hs hF hw hr =>
   have hh':held=true:=hh.resolve_right (by simp[ra7])
   exact .mem (hm (.tptr cs ad vs hs hF hw hr) (.inl hh'))
 |v u=>exact .v _
 |ptr id i c g ad b hb hd hg h =>
  simp only[backC];cases hid:backId H p.roots id g with
  |mk id2 g2 =>
  obtain⟨b2,k1,⟨n,k2,k3⟩,k4⟩:=Rc3 (ρ:=ρ) (ρ1:=ρ1) (held:=held) hp hbl hap hpb hb hid;refine .ptr id2 i c g2 ad b2 k1 (by rw[k2];exact hd) (by rw[k2,k3];simp;exact hg) λhge=>?_
  simp_all
 |sl id off n g ad cap b hb hd hg hn hs hcm h =>
  simp only[backC];cases hid:backId H p.roots id g with
  |mk id2 g2 =>
  obtain⟨b2,k1,⟨m,k2,k3⟩,k4⟩:=Rc3 (ρ:=ρ) (ρ1:=ρ1) (held:=held) hp hbl hap hpb hb hid;refine .sl id2 off n g2 ad cap b2 k1 (by rw[k2];exact hd) (by rw[k2,k3];simp;exact hg) hn hs hcm λhge=>?_
  simp_all
 |tptr cs ad vs hs hF hw hr =>
  have hh':held=true:=hh.resolve_right (by simp[ra7])
  exact .tptr cs ad vs hs (λc hc=>⟨hF c hc,.inl hh'⟩) hw λc hc=>hm (hr c hc) (.inl hh')
 |unk x'=>exact .unk _
theorem be4{x:b9}{x':Value}(hx:S5 ρ1 out F1 w1 x x')(hh:held=true\/pa9 x=false) :
  S5 (ca7 ρ ρ1 H.length blks.length (bb0 p.roots)) (settle p.lent held H2) (Kb4 ρ H F F1 (·∈p.lent) (held=true)) w1 (backVal1 H p.roots x) x':=by
 have hbar:∀{y:b9},Zc1 y=true->backVal1 H p.roots y=backC H p.roots y/\pa9 y=ra7 y:=λ{y} h=>by
  cases y with
  |agg=>cases h
  |tup=>cases h
  |fn=>cases h
  |_=>exact⟨rfl,rfl⟩
 cases hx with
 |cell h =>
  by_cases hb:Zc1 x=true
  ·obtain⟨e1,e2⟩:=hbar hb;rw[e1];exact .cell (Fb5 hp hbl hap hpb h (e2 ▸ hh))
  ·cases h with
   |mem h=>cases h with
    |fn f caps vs _ e hl hb2 h =>
     have e2:backVal1 H p.roots (.fn f caps)=backC H p.roots (.fn f caps):=by
      show b9.fn f (l9 (backC H p.roots) caps)=.fn f caps;rw[k9];congr 1;refine (Qci λy hy=>?_).trans (List.map_id _)
      have:=xb0 hb2 y hy
      cases y with
      |v=>rfl
      |tree=>rfl
      |tptr=>rfl
      |_=>cases this
     rw[e2];exact .cell (Fb5 hp hbl hap hpb (.mem (.fn f caps vs _ e hl hb2 h)) hh)
    |_=>exact absurd rfl hb
   |_=>exact absurd rfl hb
 |agg cs vs hl h =>
  show S5 _ _ _ _ (.agg (l9 (backC H p.roots) cs)) _;rw[k9];refine .agg _ vs (by simpa using hl) λi x x' hx hx'=>?_
  simp only[Qbm,Qce] at hx;obtain⟨y,hy,rfl⟩:=hx;refine Fb5 hp hbl hap hpb (h i y x' hy hx') (hh.imp id λhh=>?_)
  have hh':cs.any ra7=false:=hh
  grind
 |fn f caps vs hl h =>
  show S5 _ _ _ _ (.fn f (l9 (backC H p.roots) caps)) _;rw[k9];refine .fn f _ vs (by simpa using hl) λi x x' hx hx'=>?_
  simp only[Qbm,Qce] at hx;obtain⟨y,hy,rfl⟩:=hx;have hc:=h i y x' hy hx';refine Fb5 hp hbl hap hpb hc (hh.imp id λhh=>?_)
  have hh':caps.any Xc7=false:=hh;rw[Qcl] at hh'
  have:=hh' y (Qca hy)
  cases y with
  |fn f l=>cases l with
   |nil=>rfl
   |cons=>exact absurd rfl this
  |tree=>exact absurd rfl this
  |tptr=>exact absurd rfl this
  |_=>rfl
theorem Ve0{x:b9}{x':Value}(hx:v8 ρ1 out F1 w1 x x')(hh:held=true\/pa9 x=false) :
  v8 (ca7 ρ ρ1 H.length blks.length (bb0 p.roots)) (settle p.lent held H2) (Kb4 ρ H F F1 (·∈p.lent) (held=true)) w1 (backVal H p.roots x) x':=by
 cases hx with
 |val h =>
  have e:backVal H p.roots x=backVal1 H p.roots x\/∃vs,x=.tup vs:=by
   cases x with
   |tup vs=>exact .inr ⟨vs,rfl⟩
   |_=>exact .inl rfl
  rcases e with e|⟨vs,rfl⟩
  ·rw[e];exact .val (be4 hp hbl hap hpb h hh)
  ·cases h with
   |cell h=>cases h with
    |mem h=>cases h
 |tup xs vs hl h =>
  show v8 _ _ _ _ (.tup (l9 (backVal1 H p.roots) xs)) _;rw[k9];refine .tup _ vs (by simpa using hl) λi x x' hx hx'=>?_
  simp only[Qbm,Qce] at hx;obtain⟨y,hy,rfl⟩:=hx;refine be4 hp hbl hap hpb (h i y x' hy hx') (hh.imp id λhh=>?_)
  have hh':xs.any xd9=false:=hh;rw[Qcl] at hh'
  have:=hh' y (Qca hy)
  have e:pa9 y=xd9 y\/∃l,y=.tup l:=by
   cases y with
   |tup l=>exact .inr ⟨l,rfl⟩
   |_=>exact .inl rfl
  rcases e with e|⟨l,rfl⟩
  ·rw[e];simpa using this
  ·cases h i _ x' hy hx' with
   |cell h=>cases h with
    |mem h=>cases h
end
end
section
variable{W:Nat->Prop}{ρ:Rho}{H H':List c7}{F:Fz}{w:World}{E:Env}
theorem ob9(hH:r4 W ρ H F w)(hG:GOk E F w){f:FuncId}(hcall:e8 E.P E.G f (E.call f)){args:List b9}{args':List Value}{x:b9}(hlen:args.length=args'.length)
  (hargs:∀(i:Nat) x x',args[i]?=some x->args'[i]?=some x'->v8 ρ H F w x x') (he:(callA E f args H).run=some (x,H')) :
  Ua7 E.P f/\Calls E.P f args'.toArray w λe w'=>∃x',e=.returned x'/\C4 W ρ H F w x H' x' w':=by
 unfold callA at he;cases hpr:prepArgs H (E.own f) { roots:=[],lent:=[] } 0 args with
 |none=>rw[hpr] at he;cases he
 |some q =>
 obtain⟨args2,p⟩:=q;rw[hpr] at he
 simp only at he
 obtain⟨hp,_,hl2,hPr⟩:=xb3 (H:=H) (p:={ roots:=[],lent:=[] }) ⟨List.nodup_nil,λid h=>by simp at h,λid h=>by simp at h⟩ hpr
 cases hbl:blksAt H p.roots with
 |none=>rw[hbl] at he;cases he
 |some blks =>
 cases hap:Ua1 p.lent p.roots with
 |false=>rw[hbl,hap] at he;cases he
 |true =>
 rw[hbl,hap] at he
 simp only at he
 obtain⟨⟨r,out⟩,hc,he⟩:=DT.run_bind_some he
 simp only at he
 cases hpb:putBack H p.roots out with
 |none=>rw[hpb] at he;cases he
 |some H2 =>
 rw[hpb] at he
 simp only at he
 generalize hheld:(pa9 r||out.any wb1)=held at he
 have he':some (backVal H p.roots r,settle p.lent held H2)=some (x,H'):=he;injection he' with he';injection he' with e1 e2
 have hS:=ld9 (held:=held) hp hbl hap hpb
 let inv:Nat->Nat:=λj=>(p.roots[j]?).getD 0
 have hinv1:∀(j:Nat) id,p.roots[j]?=some id->inv j=id:=λj id h=>by simp[inv,h]
 obtain⟨hbll,_⟩:=Ta7 hbl;have hinv:∀j,j<blks.length->bb0 p.roots (inv j)=some j:=λj hj=>by
  rw[hbll] at hj;have h:=Qaa hj;rw[hinv1 j _ h];exact xc9 hp.nodup h
 have hst:=hS.start hH inv hinv;have hargs2:∀(i:Nat) y y',args2[i]?=some y->args'[i]?=some y'->v8 (λj=>ρ (inv j)) blks (Rc0 ρ H F (·∈p.lent)) w y y':=λi y y' hy hy'=>by
  have hi:i<args.length:=hl2 ▸ (Qab.1 hy).1;have hx:=Qaa hi;exact (hPr i _ y hx hy).rel hH hbl inv hinv1 (hargs i _ y' hx hy')
 obtain⟨hca,hcalls⟩:=hcall args2 blks r out hc _ _ _ w args' hst (hl2.trans hlen) hargs2 λg c y hy=>by
  obtain⟨h1,h2,h3⟩:=hG g c y hy;exact⟨h1,.inl h2,h3⟩
 refine⟨hca,hcalls.mono λe w' ⟨r',her,ρ1,F1,hA,h1,hr⟩=>?_⟩
 have hheld':held=true\/(pa9 r=false/\∀b∈out,wb1 b=false):=by
  grind
 have hbare:held=true\/∀(i:Nat) c (j:Nat) rr (k:Nat) y,out[i]?=some c->c.elems[j]?=some rr->rr[k]?=some y->ra7 y=false:=by
  rcases hheld' with h|⟨_,h⟩
  ·exact .inl h
  ·refine .inr λi c j rr k y hc hrr hy=>?_
   have h2:=h c (Qca hc);have h3:=Qcl.1 h2 rr (Qca hrr)
   grind
 obtain⟨j1,j2⟩:=hS.join hH inv hinv hA h1 hbare;subst her;refine⟨r',rfl,_,_,e2 ▸ j1,e2 ▸ j2,?_⟩;rw[<- e1,<- e2];exact Ve0 hp hbl hap hpb hr (hheld'.imp id λh=>h.1)
variable{o:Oper}{ac:Act}{a:List b9}{x:b9}
theorem Aa9{P:Program}{f:FuncId}(hc:Ua7 P f)(args:Array Value):(callFunc f args).run P w=.ok (.enter f args) w:=by
 obtain⟨fn,h1,h2,h3⟩:=hc;have h2':¬ fn.body=none:=λhb=>by rw[hb] at h2;cases h2
 simp[callFunc,h1,if_neg h2',if_neg h3]
theorem Zc2(hA:da4 ρ H F w a ac.tmps)(hG:GOk E F w)(l:Array Operand):(l9 (c9 E a) (l.toList.map g9)).length=(l.map ac.eval).toList.length /\
  ∀(i:Nat) x x',(l9 (c9 E a) (l.toList.map g9))[i]?=some x->((l.map ac.eval).toList)[i]?=some x'->v8 ρ H F w x x':=by
 rw[k9];refine⟨by simp,λi x x' hx hx'=>?_⟩
 simp at hx hx'
 obtain⟨y,hy,rfl⟩:=hx;obtain⟨y',hy',rfl⟩:=hx'
 have:y'=y:=Qah (hy'.symm.trans hy)
 subst this;exact l5 hA hG y'
theorem zd9(hA:da4 ρ H F w a ac.tmps)(hH:r4 W ρ H F w)(hG:GOk E F w)(hcalls:∀f,e8 E.P E.G f (E.call f)){c:Call}{f:FuncId}(ho:o.op=.call c)(hc:c.callee=.value (.func f))
  (he:(evalOp E a H (.call f (c.args.toList.map g9))).run=some (x,H')):i6 E.P o ac w (C4 W ρ H F w x H'):=by
 obtain⟨h1,h2⟩:=Zc2 (E:=E) hA hG c.args;obtain⟨k1,k2⟩:=ob9 hH hG (hcalls f) h1 h2 he;refine .enter (f:=f) (args:=c.args.map ac.eval) ?_ (by
  rw[Array.toArray_toList] at k2;exact k2)
 have hr:=Aa9 (w:=w) k1 (c.args.map ac.eval);simp[execOp,ho,resolve,hc,Act.eval,Deferred.ofValue,invoke,hr]
theorem md0(hA:da4 ρ H F w a ac.tmps)(hH:r4 W ρ H F w)(hG:GOk E F w)(hcalls:∀f,e8 E.P E.G f (E.call f)){c:Call}{y:Operand}(ho:o.op=.call c)(hc:c.callee=.value y)
  (he:(evalOp E a H (.calld (g9 y) (c.args.toList.map g9))).run=some (x,H')):i6 E.P o ac w (C4 W ρ H F w x H'):=by
 obtain⟨h1,h2⟩:=Zc2 (E:=E) hA hG c.args;have hy:=l5 hA hG y;simp only[evalOp] at he
 revert he hy
 cases c9 E a (g9 y) with
 |fn f caps =>
  intro he hy
  simp only at he
  obtain⟨vs,e,hl,h3⟩:=eb9 hy;cases hb:Nat.ble bfB f with
  |true =>
   rw[hb] at he;cases caps with
   |nil=>cases he
   |cons c0 cs0 =>
   simp only at he
   have hv:vs≠#[]:=λe=>by rw[e] at hl;simp at hl
   rw[jd6 hb hv] at e;obtain⟨k1,k2⟩:=ob9 (args':=.agg vs::(c.args.map ac.eval).toList) hH hG (hcalls (f-bfB)) (by simp only[List.length_cons];rw[h1]) (λi u u' hu hu'=>by
    cases i with
    |zero =>
     simp only[List.getElem?_cons_zero] at hu hu';cases hu;cases hu';exact .val (.agg _ vs hl h3)
    |succ i =>
     rw[List.getElem?_cons_succ] at hu hu';exact h2 i u u' hu hu') he
   refine .enter (f:=f-bfB) (args:=#[.agg vs]++c.args.map ac.eval) ?_ ?_
   ·have hr:=Aa9 (w:=w) k1 (#[.agg vs]++c.args.map ac.eval);simp[execOp,ho,resolve,hc,e,Deferred.ofValue,invoke,hr]
   ·have:(Value.agg vs::(c.args.map ac.eval).toList).toArray=#[.agg vs]++c.args.map ac.eval:=by simp
    rw[this] at k2;exact k2
  |false =>
  rw[hb] at he
  simp only at he
  rw[wb7 hb] at e;obtain⟨k1,k2⟩:=ob9 (args':=(c.args.map ac.eval).toList++vs.toList) hH hG (hcalls f) (by rw[E0];simp only[List.length_append];rw[h1,hl];simp) (λi u u' hu hu'=>by
   rw[E0] at hu
   rcases Qan i (c.args.map ac.eval).toList.length with hi|hi
   ·rw[Qbg (by rw[h1];exact hi)] at hu
    rw[Qbg hi] at hu';exact h2 i u u' hu hu'
   ·rw[Qbf (by rw[h1];exact hi),h1] at hu
    rw[Qbf hi] at hu';exact .val (.cell (h3 _ u u' hu (by simpa using hu')))) he
  refine .enter (f:=f) (args:=c.args.map ac.eval++vs) ?_ ?_
  ·have hr:=Aa9 (w:=w) k1 (c.args.map ac.eval++vs);simp[execOp,ho,resolve,hc,e,Deferred.ofValue,invoke,hr]
  ·have:((c.args.map ac.eval).toList++vs.toList).toArray=c.args.map ac.eval++vs:=by simp
   rw[this] at k2;exact k2
 |_=>intro he;cases he
theorem Rc4{t:Nat}{f:FuncId}:∀{tbl:List (Nat×FuncId)},ae4 t tbl=some f->(t,f)∈tbl
 |[],h=>by cases h
 |p::tbl,h=>by
  have h:Bool.rec (motive:=λ_=>Option FuncId) (ae4 t tbl) (some p.2) (Nat.beq p.1 t)=some f:=h
  cases hb:Nat.beq p.1 t with
  |true =>
   rw[hb] at h;have h:some p.2=some f:=h;injection h with h;rw[<- Qae hb,<- h];exact .head _
  |false=>rw[hb] at h;exact .tail _ (Rc4 h)
theorem Ad0{P:Program}{name:String}{t:TypeId}{f:FuncId}(h:(t,f)∈Yc4 P name)(v:Value):(method (P.types.size+Made.depth) t v name).run P w=.ok (f,v) w:=by
 unfold Yc4 at h;obtain⟨t',ht,hr⟩:=List.mem_filterMap.1 h;have hlt:t'<P.types.size:=Qcj.1 ht;unfold ae7 at hr;cases hi:P.info? t' with
 |none=>rw[hi] at hr;cases hr
 |some i =>
 rw[hi] at hr
 simp only at hr
 cases hm:i.methods.find? (λm=>m.name==name) with
 |none=>rw[hm] at hr;cases hr
 |some m =>
 rw[hm] at hr
 simp only at hr
 split at hr
 ·rename_i g fs hp hf hu;injection hr with hr;injection hr with e1 e2;subst e1 e2;obtain⟨n,hn⟩:∃n,P.types.size+Made.depth=n+1:=⟨P.types.size-1+Made.depth,by omega⟩
  rw[hn];simp[method,typeInfo,hi,hm,hp,follow,hf,receiverAt,run_underlying hu,Place.get]
 ·cases hr
theorem Ad1(hA:da4 ρ H F w a ac.tmps)(hH:r4 W ρ H F w)(hG:GOk E F w)(hcalls:∀f,e8 E.P E.G f (E.call f)){c:Call}{y:Operand}{name:String}(ho:o.op=.call c)(hc:c.callee=.invoke y name)
  (he:(evalOp E a H (.invk (Yc4 E.P name) (g9 y) (c.args.toList.map g9))).run=some (x,H')):i6 E.P o ac w (C4 W ρ H F w x H'):=by
 obtain⟨h1,h2⟩:=Zc2 (E:=E) hA hG c.args;have hy:=l5 hA hG y;simp only[evalOp] at he
 revert he hy
 generalize c9 E a (g9 y)=u;intro he hy;unfold wc2 at he
 split at he
 ·rename_i f z hq
  split at hq
  ·rename_i t v
   split at hq
   ·rename_i f' hf;injection hq with hq;injection hq with e1 e2;subst e1 e2;have ey:=K5 hy;obtain⟨k1,k2⟩:=ob9 (args':=v::(c.args.map ac.eval).toList) hH hG (hcalls f') (by simp only[List.length_cons];rw[h1]) (λi u u' hu hu'=>by
     cases i with
     |zero =>
      simp only[List.getElem?_cons_zero] at hu hu';cases hu;cases hu';exact .val (S5.ofVal1 v)
     |succ i =>
      rw[List.getElem?_cons_succ] at hu hu';exact h2 i u u' hu hu') he
    refine .enter (f:=f') (args:=#[v]++c.args.map ac.eval) ?_ ?_
    ·have hr:=Aa9 (w:=w) k1 (#[v]++c.args.map ac.eval);have hm:=Ad0 (w:=w) (Rc4 hf) v;have hx:(c.args.map ac.eval).extract 0 c.args.size=c.args.map ac.eval:=by
      have:=Array.extract_size (xs:=c.args.map ac.eval)
      simpa using this
     have h0:(#[Value.iface t v]++c.args.map ac.eval)[0]?=some (Value.iface t v):=by
      rw[Array.getElem?_append_left (by simp)]
      rfl
     simp[execOp,ho,resolve,hc,ey,invoke,callMethod,h0,hx,hm,hr]
    ·have:(v::(c.args.map ac.eval).toList).toArray=#[v]++c.args.map ac.eval:=by simp
     rw[this] at k2;exact k2
   ·cases hq
  ·cases hq
 ·cases he
end
section
variable{W:Nat->Prop}{ρ:Rho}{H H':List c7}{F:Fz}{w:World}{E:Env}{o:Oper}{ac:Act}{a:List b9}{x:b9}
theorem j7{α:Prop}(h:(evalOp E a H .bad).run=some (x,H')):α:=by cases h
theorem Pb1(hA:da4 ρ H F w a ac.tmps)(hH:r4 W ρ H F w)(hG:GOk E F w)(hs:∀cs b,o.op≠.select cs b)(he:(evalOp E a H (wb8 o)).run=some (x,H')):i6 E.P o ac w (C4 W ρ H F w x H'):=by
 unfold wb8 at he;cases hts:Aa7 o.op.operands.toList with
 |none=>rw[hts] at he;exact j7 he
 |some ts=>rw[hts] at he;exact Qc6 hA hH hG hts hs he
theorem Tb4{P:Program}{t:TypeId}(h:szT P t≠0):∃i,P.info? t=some i/\szT P t=i.size/\i.size≠0:=by
 cases hi:P.info? t with
 |none=>simp[szT,hi] at h
 |some i=>exact⟨i,rfl,by simp[szT,hi],by simpa [szT,hi] using h⟩
theorem M0{α:Type}{x:Array α}{l:List α}(h:x.toList=l):x=l.toArray:=by rw[<- h]
theorem xb4{P:Program}(l:List Operand)(r:List TypeId):(∃s y t u,l=[s,y]/\r=[t,u])\/(Yc3 P l r=.bad/\jf2 P l r=.bad):=by
 rcases l with _|⟨s,_|⟨y,_|⟨_,_⟩⟩⟩<;>rcases r with _|⟨t,_|⟨u,_|⟨_,_⟩⟩⟩<;>first|exact .inr ⟨rfl,rfl⟩|exact .inl ⟨_,_,_,_,rfl,rfl⟩
theorem jf6{P:Program}{o:Oper}(l:List Operand)(r:List TypeId):(∃y t,l=[y]/\r=[t])\/Ue5 P o l r=.bad:=by
 rcases l with _|⟨y,_|⟨_,_⟩⟩<;>rcases r with _|⟨t,_|⟨_,_⟩⟩<;>first|exact .inr rfl|exact .inl ⟨_,_,rfl,rfl⟩
set_option maxHeartbeats 1000000 in
theorem be5(hA:da4 ρ H F w a ac.tmps)(hH:r4 W ρ H F w)(hG:GOk E F w)(hcalls:∀f,e8 E.P E.G f (E.call f))
  (he:(evalOp E a H (cOp E.P o)).run=some (x,H')):i6 E.P o ac w (C4 W ρ H F w x H'):=by
 have hgen:(∀cs b,o.op≠.select cs b)->(evalOp E a H (wb8 o)).run=some (x,H')->i6 E.P o ac w (C4 W ρ H F w x H'):=λhs h=>Pb1 hA hH hG hs h
 unfold cOp at he;cases ho:o.op with
 |move y=>simp only[ho] at he;exact kd0 hA hH hG (.inl ho) he
 |assign y=>simp only[ho] at he;exact kd0 hA hH hG (.inr ho) he
 |nilCheck y=>simp only[ho] at he;exact kd1 hA hH hG ho he
 |pick c y z=>simp only[ho] at he;exact yd8 hA hH hG ho he
 |alloc t =>
  simp only[ho] at he;cases hz:zeT E.P t with
  |none=>simp only[hz] at he;exact j7 he
  |some z=>simp only[hz] at he;exact kd5 hH ho hz he
 |box t y=>simp only[ho] at he;exact Sd6 hA hH hG ho he
 |build t ps =>
  simp only[ho] at he;cases hz:zeT E.P t with
  |none=>simp only[hz] at he;exact j7 he
  |some z =>
  simp only[hz] at he;cases hc:Fa7 E.P t ps.toList with
  |none=>simp only[hc] at he;exact j7 he
  |some l =>
  simp only[hc] at he
  split at he
  ·rename_i hall;exact kd9 hA hH hG ho hz hc hall he
  ·exact j7 he
 |buildSlice t n ps =>
  simp only[ho] at he;cases hu:E.P.underlying t with
  |none=>simp only[hu] at he;exact j7 he
  |some u =>
  cases u with
  |slice e =>
   simp only[hu] at he;cases hz:zeT E.P e with
   |none=>simp only[hz] at he;exact j7 he
   |some z =>
   simp only[hz] at he;cases hc:Fa7 E.P t ps.toList with
   |none=>simp only[hc] at he;exact j7 he
   |some l =>
   simp only[hc] at he
   split at he
   ·rename_i hcond;simp only[Qbd] at hcond;exact Zc0 hA hH hG ho hu hz hc (Qbb hcond.1.1) (Qae hcond.1.2) (Qbb hcond.2) he
   ·exact j7 he
  |_=>simp only[hu] at he;exact j7 he
 |load t y =>
  simp only[ho] at he;cases hu:E.P.underlying t with
  |none=>simp only[hu] at he;exact j7 he
  |some u=>simp only[hu] at he;exact zd1 hA hH hG ho (by rw[hu];simp) he
 |store t y z =>
  simp only[ho] at he
  split at he
  ·exact j7 he
  ·rename_i h0;exact kd6 hA hH hG ho (λh=>h0 (by rw[h];rfl)) he
 |fieldAddr s y f =>
  simp only[ho] at he;cases hu:E.P.underlying s with
  |none=>simp only[hu] at he;exact j7 he
  |some u =>
  cases u with
  |struct fs =>
   simp only[hu] at he;cases hf:fs[f]? with
   |none=>simp only[hf] at he;exact j7 he
   |some fd =>
   simp only[hf] at he
   split at he
   ·exact j7 he
   ·rename_i h0;exact Sd2 hA hH hG ho hu hf (λh=>h0 (by rw[h];rfl)) he
  |_=>simp only[hu] at he;exact j7 he
 |indexAddr t y z =>
  simp only[ho] at he;cases hu:E.P.underlying t with
  |none=>simp only[hu] at he;exact j7 he
  |some u =>
  cases u with
  |array n e =>
   simp only[hu] at he
   split at he
   ·rename_i hi;obtain⟨ei,hei⟩:=Qbi.1 hi;exact yd9 hA hH hG ho hu hei he
   ·exact j7 he
  |slice e =>
   simp only[hu] at he
   split at he
   ·rename_i hi;obtain⟨ei,hei⟩:=Qbi.1 hi;exact zd0 hA hH hG ho hu hei he
   ·exact j7 he
  |_=>simp only[hu] at he;exact j7 he
 |slice t y lo hi mx =>
  simp only[ho] at he;cases hu:E.P.underlying t with
  |none=>simp only[hu] at he;exact j7 he
  |some u =>
  cases u with
  |slice e =>
   cases mx with
   |some _=>simp only[hu] at he;exact j7 he
   |none =>
   simp only[hu] at he
   split at he
   ·rename_i hi;obtain⟨ei,hei⟩:=Qbi.1 hi;exact ld2 hA hH hG ho hu hei he
   ·exact j7 he
  |array n e =>
   cases mx with
   |some _=>simp only[hu] at he;exact j7 he
   |none =>
   cases lo with
   |some _=>simp only[hu] at he;exact j7 he
   |none =>
   cases hi with
   |some _=>simp only[hu] at he;exact j7 he
   |none =>
   simp only[hu] at he
   split at he
   ·rename_i hi;rw[Qbd,Qbd,Qch,Qch] at hi;obtain⟨ei,hei⟩:=Qbi.1 hi.1;exact Sd8 hA hH hG ho hu hei hi.2.1 hi.2.2 he
   ·exact j7 he
  |string =>
   cases mx with
   |some _=>simp only[hu] at he;exact j7 he
   |none=>simp only[hu] at he;exact hgen (λcs b e=>by rw[ho] at e;cases e) he
  |_=>simp only[hu] at he;exact j7 he
 |makeSlice t l c =>
  simp only[ho] at he;cases hu:E.P.underlying t with
  |none=>simp only[hu] at he;exact j7 he
  |some u =>
  cases u with
  |slice e =>
   simp only[hu] at he;cases hz:zeT E.P e with
   |none=>simp only[hz] at he;exact j7 he
   |some z =>
   simp only[hz] at he
   split at he
   ·rename_i hcond;simp only[Qbd] at hcond;exact zd2 hA hH hG ho hu hz (Qae hcond.1) (Qbb hcond.2) he
   ·exact j7 he
  |_=>simp only[hu] at he;exact j7 he
 |makeFunc fr first caps =>
  cases fr with
  |func f =>
   simp only[ho] at he
   split at he
   ·rename_i hf
    split at he
    ·exact j7 he
    ·rename_i hlt;exact zd3 hA hH hG ho hf (Bool.eq_false_iff.2 hlt) he
   ·split at he
    ·rename_i hc;exact zd5 hA hH hG ho hc he
    ·exact j7 he
  |_=>simp only[ho] at he;exact j7 he
 |extract y i=>simp only[ho] at he;exact Sd1 hA hH hG ho he
 |field t y f =>
  simp only[ho] at he;cases hu:E.P.underlying t with
  |none=>simp only[hu] at he;exact j7 he
  |some u =>
  cases u with
  |struct fs =>
   simp only[hu] at he;cases hf:fs[f]? with
   |none=>simp only[hf] at he;exact j7 he
   |some fd =>
   simp only[hf] at he
   split at he
   ·rename_i hs;exact ld3 hA hH hG ho hu hf hs he
   ·exact j7 he
  |_=>simp only[hu] at he;exact j7 he
 |index t y z =>
  simp only[ho] at he;cases hu:E.P.underlying t with
  |none=>simp only[hu] at he;exact j7 he
  |some u =>
  cases u with
  |array n e =>
   simp only[hu] at he
   split at he
   ·rename_i hs;exact ld4 hA hH hG ho hu hs he
   ·exact j7 he
  |string=>simp only[hu] at he;exact zd6 hA hH hG ho hu he
  |_=>simp only[hu] at he;exact j7 he
 |binOp op t y z u0 =>
  have hg:(evalOp E a H (wb8 o)).run=some (x,H')->i6 E.P o ac w (C4 W ρ H F w x H'):=hgen (λcs b e=>by rw[ho] at e;cases e)
  have hrest:(evalOp E a H (Ue3 E.P o op t y z)).run=some (x,H')->i6 E.P o ac w (C4 W ρ H F w x H'):=λhe=>by
   unfold Ue3 at he;cases op with
   |eql =>
    by_cases hag:agT E.P t=true
    ·simp only[hag,if_true] at he;cases hf:O5 E.P 9 t with
     |none=>simp only[hf] at he;exact j7 he
     |some fl =>
     simp only[hf] at he;by_cases hgt:E.P.eqGuardType E.P.depth t=true
     ·simp only[hgt,if_true] at he;exact j7 he
     ·simp only[hgt,if_false] at he;exact Qc9 hA hH hG ho (.inl ⟨rfl,rfl⟩) hag hf (by simpa using hgt) he
    simp only[hag,if_false] at he;cases hts:Aa7 o.op.operands.toList with
    |none=>simp only[hts] at he;exact j7 he
    |some ts=>simp only[hts] at he;exact Qc7 hA hH hG ho (.inl ⟨rfl,rfl⟩) hts he
   |neq =>
    by_cases hag:agT E.P t=true
    ·simp only[hag,if_true] at he;cases hf:O5 E.P 9 t with
     |none=>simp only[hf] at he;exact j7 he
     |some fl =>
     simp only[hf] at he;by_cases hgt:E.P.eqGuardType E.P.depth t=true
     ·simp only[hgt,if_true] at he;exact j7 he
     ·simp only[hgt,if_false] at he;exact Qc9 hA hH hG ho (.inr ⟨rfl,rfl⟩) hag hf (by simpa using hgt) he
    simp only[hag,if_false] at he;cases hts:Aa7 o.op.operands.toList with
    |none=>simp only[hts] at he;exact j7 he
    |some ts=>simp only[hts] at he;exact Qc7 hA hH hG ho (.inr ⟨rfl,rfl⟩) hts he
   |_=>exact hg he
  simp only[ho] at he;cases hu:E.P.underlying t with
  |none=>simp only[hu] at he;exact hrest he
  |some u =>
  cases u with
  |int k =>
   simp only[hu] at he;cases op<;>first | exact Sd0 hA hH hG ho he | exact hg he
  |_=>simp only[hu] at he;exact hrest he
 |unOp op t y =>
  have hg:(evalOp E a H (wb8 o)).run=some (x,H')->i6 E.P o ac w (C4 W ρ H F w x H'):=hgen (λcs b e=>by rw[ho] at e;cases e)
  simp only[ho] at he;cases op with
  |not=>exact Rd8 hA hH hG ho he
  |neg =>
   cases hu:E.P.underlying t with
   |none=>simp only[hu] at he;exact hg he
   |some u =>
   cases u with
   |int k=>simp only[hu] at he;exact Rd9 hA hH hG ho he
   |_=>simp only[hu] at he;exact hg he
  |_=>exact hg he
 |call c =>
  have hg:(evalOp E a H (wb8 o)).run=some (x,H')->i6 E.P o ac w (C4 W ρ H F w x H'):=hgen (λcs b e=>by rw[ho] at e;cases e)
  simp only[ho] at he;cases hc:c.callee with
  |value y =>
   simp only[hc] at he;cases y with
   |func f=>exact zd9 hA hH hG hcalls ho hc he
   |_=>exact md0 hA hH hG hcalls ho hc he
  |invoke r m=>simp only[hc] at he;exact Ad1 hA hH hG hcalls ho hc he
  |builtin b =>
   simp only[hc] at he;cases b with
   |append =>
    rcases xb4 c.args.toList c.argTypes.toList with⟨s,y,t,u,h1,h2⟩|h
    ·rw[h1,h2] at he;simp only[Yc3] at he;cases hu:E.P.underlying t with
     |none=>simp only[hu] at he;exact j7 he
     |some uu =>
     cases uu with
     |slice e =>
      simp only[hu] at he
      split at he
      ·rename_i hcond;simp only[Qbd,Bool.not_eq_true'] at hcond;obtain⟨⟨⟨⟨c1,c2⟩,c3⟩,c4⟩,c5⟩:=hcond;have htu:=Qae c5;subst htu;obtain⟨ei,hei,hs,_⟩:=Tb4 (P:=E.P) (t:=e) (Nat.pos_iff_ne_zero.1 (Qbb c1));have hb:byT E.P e=ei.bytes:=by simp[byT,hei]
       unfold ae6 at c3;simp only[hei] at c3;cases hz:ei.zero with
       |none=>simp[hz] at c3
       |some zv =>
       simp only[hz] at c3;exact Yc8 hA hH hG ho hc (M0 h1) (M0 h2) hu hei hz (Qae c3) (hs ▸ Qbb c1) (hb ▸ Qbb c2) (Qbae c4) he
      ·exact j7 he
     |_=>simp only[hu] at he;exact j7 he
    ·rw[h.1] at he;exact j7 he
   |clear =>
    have he':(evalOp E a H (Ue4 E.P c.args.toList c.argTypes.toList)).run=some (x,H'):=he
    revert he'
    generalize hl1:c.args.toList=l1;generalize hl2:c.argTypes.toList=l2;intro he';unfold Ue4 at he'
    split at he'
    ·split at he'
     ·rename_i e hu
      split at he'
      ·rename_i z hz
       split at he'
       ·rename_i hp;exact Qc8 hA hH hG ho hc (M0 hl1) (M0 hl2) hu hz (by rwa [Qch] at hp) he'
       ·exact j7 he'
      ·exact j7 he'
     ·exact j7 he'
    ·exact j7 he'
   |len =>
    rcases jf6 c.args.toList c.argTypes.toList with⟨y,t,h1,h2⟩|h
    ·rw[h1,h2] at he;simp only[Ue5] at he;cases hu:E.P.underlying t with
     |none=>simp only[hu] at he;exact j7 he
     |some uu =>
     cases uu with
     |slice e=>simp only[hu] at he;exact Sd9 hA hH hG ho hc (M0 h1) (M0 h2) hu he
     |array n e=>simp only[hu] at he;exact Lc4 hH ho hc (M0 h1) (M0 h2) hu he
     |string=>simp only[hu] at he;exact zd7 hA hH hG ho hc (M0 h1) (M0 h2) hu he
     |_=>simp only[hu] at he;exact j7 he
    ·rw[h] at he;exact j7 he
   |max=>exact hg he
   |min=>exact hg he
   |_=>exact j7 he
 |convert t u y=>simp only[ho] at he;exact hgen (λcs b e=>by rw[ho] at e;cases e) he
 |makeInterface t y=>simp only[ho] at he;exact hgen (λcs b e=>by rw[ho] at e;cases e) he
 |typeAssert t y u b=>simp only[ho] at he;exact hgen (λcs b e=>by rw[ho] at e;cases e) he
 |_=>simp only[ho] at he;exact j7 he
theorem Tb5:∀{cs:List b9},ia0 wb2 cs=true->freezeCells H cs=some (cs,H)
 |[],_=>rfl
 |c::cs,h=>by
  have e:ia0 wb2 (c::cs)=Bool.rec false (ia0 wb2 cs) (wb2 c):=rfl;rw[e] at h;cases hc:wb2 c with
  |false=>rw[hc] at h;cases h
  |true =>
   rw[hc] at h;have ih:=Tb5 h;have h1:freezeCell H c=some (c,H):=by
    unfold wb2 at hc;unfold freezeCell;cases c with
    |v u=>simp only at hc ⊢;rw[hc]
    |tree=>rfl
    |fn f caps=>cases caps with
     |nil=>rfl
     |cons=>cases hc
    |_=>cases hc
   simp only[freezeCells,h1,ih]
theorem md1{po:PO}{blk:c7}{n:Nat}(hd:blk.dead=false)(hg:blk.g=0)(hb:∀{x:b9} {H':List c7},(evalOp E a H po).run=some (x,H')->i6 E.P o ac w (C4 W ρ H F w x H'))
  (hrun:(evalOp E a H po).run=some (.sl H.length 0 n 0,H++[blk])):i6 E.P o ac w (C4 W ρ H F w (wb0 blk 0 n) H):=by
 intro next Q hn;refine hb hrun next Q λx' w' ⟨ρ',F',a1,a2,a3⟩=>hn x' w' ?_
 have hN:(H++[blk])[H.length]?=some blk:=by simp
 obtain⟨F2,b1,b2,b3⟩:=a2.disown H.length blk hN hd;have hat:blkAt (H++[blk]) H.length 0=some blk:=by
  unfold blkAt;rw[p9,hN];simp[hd,hg]
 have htree:=cc7 a2 hat a3 b1.more b3;have hlow:∀(id:Nat) b,H[id]?=some b->((H++[blk]).set H.length { blk with own:=false })[id]?=some b:=λid b h=>by
  have:=(Qab.1 h).1
  rw[Qaf (by omega),Qbg this]
  exact h
 have hext:∀(id:Nat) b,H[id]?=some b->ρ' id=ρ id:=λid b h=>by
  obtain⟨b',h1,_,_,h4⟩:=a1.heap id b h;rw[Qbg (Qab.1 h).1] at h1
  have:b'=b:=Qah (h1.symm.trans h)
  subst this;exact (h4 rfl).1
 refine⟨ρ',F2,⟨a1.ext,λid b h=>⟨b,h,rfl,Qac _,λ_=>⟨hext id b h,rfl,Qac _⟩⟩,λb o h=>b1.more b o (a1.more b o h),λb o h=>?_,λid b h hn=>absurd rfl (hn b h)⟩,?_,?_⟩
 ·rcases b1.new b o h with h|h
  ·exact a1.new b o h
  ·exact .inr h
 ·exact b2.pull (λid=>id) (λid b h hd=>⟨hlow id b h,rfl⟩) λ_ _ _ _ _ _ _ _ h=>h
 ·exact .val (.cell (.mem htree))
theorem Zc3{e es n:Nat}{z:List b9}{l:List (Nat×Nat×Arg)}(hb:∀{x:b9} {H':List c7},(evalOp E a H (.bslice e es n z l)).run=some (x,H')->i6 E.P o ac w (C4 W ρ H F w x H'))
  (he:(evalOp E a H (.tslice es n z l)).run=some (x,H')):i6 E.P o ac w (C4 W ρ H F w x H'):=by
 simp only[evalOp] at he;cases hf:sb8 z (l9 (λp=>(p.1,p.2.1,c9 E a p.2.2)) l) with
 |none=>rw[hf] at he;cases he
 |some cs =>
 rw[hf] at he
 simp only at he
 cases hp:ia0 wb2 cs with
 |false=>rw[hp] at he;cases he
 |true =>
 rw[hp] at he;simp only[DT.run_ret] at he;injection he with he;injection he with e1 e2;subst e1 e2
 exact md1 (blk:={ et:=e,es,elems:=ma5 es n cs,own:=true,dead:=false,g:=0 }) rfl rfl hb (by simp only[evalOp,hf,Tb5 hp,DT.run_ret,l6,da2,E0])
theorem Td3 {e es by' : Nat} {z : List b9} {y c : Arg} (hb : ∀ {x : b9} {H' : List c7}, (evalOp E a H (.mksl e es by' z y c)).run = some (x, H') → i6 E.P o ac w (C4 W ρ H F w x H'))
  (he:(evalOp E a H (.tmk es by' z y c)).run=some (x,H')):i6 E.P o ac w (C4 W ρ H F w x H'):=by
 simp only[evalOp] at he
 split at he
 ·rename_i n m h1 h2;obtain⟨h3,he⟩:=DT.run_guard_some he;simp only[DT.run_ret] at he;injection he with he;injection he with e1 e2;subst e1 e2
  refine md1 (blk:={ et:=e,es,elems:=List.replicate n.toNat z,own:=true,dead:=false,g:=0 }) rfl rfl hb ?_;simp only[evalOp,h1,h2,DT.guard,DT.run_ite,h3,DT.run_ret,l6,da2,E0,if_true]
 ·cases he
theorem dc1{ops:Array Oper}(hA:da4 ρ H F w a ac.tmps)(hH:r4 W ρ H F w)(hG:GOk E F w)(hcalls:∀f,e8 E.P E.G f (E.call f))
  (he:(evalOp E a H (jb8 E.P ops o)).run=some (x,H')):i6 E.P o ac w (C4 W ρ H F w x H'):=by
 have hs:(evalOp E a H (cOp E.P o)).run=some (x,H')->i6 E.P o ac w (C4 W ρ H F w x H'):=λh=>be5 hA hH hG hcalls h
 unfold jb8 at he
 split at he
 ·rename_i c ho
  split at he
  ·rename_i hcb
   revert he
   generalize hl1:c.args.toList=l1;generalize hl2:c.argTypes.toList=l2;intro he;unfold jf4 at he
   split at he
   ·rename_i s y t u
    split at he
    ·rename_i e hu
     split at he
     ·rename_i hc;simp only[Qbd,Qch] at hc;have htu:=Qae hc.2.2;subst htu;obtain⟨ti,hi,hi0,hi1⟩:=Tb4 (Nat.ne_of_gt hc.2.1);exact xc5 (y:=.tmp s) hA hH hG ho hcb (M0 hl1) (M0 hl2) hu hi (by omega) he
     ·exact hs he
    ·exact hs he
   ·exact hs he
  ·exact hs he
 ·rename_i f first caps ho
  split at he
  ·rename_i hc;rw[Qbd] at hc;exact zd4 hA hH hG ho hc.1 he
  ·exact hs he
 ·rename_i ho;exact Pb1 hA hH hG (λcs b e=>by rw[ho] at e;cases e) he
 ·rename_i ho
  split at he
  ·exact Pb1 hA hH hG (λcs b e=>by rw[ho] at e;cases e) he
  ·exact hs he
 ·exact hs he
theorem Rc5{ops:Array Oper}(tr:Nat)(hA:da4 ρ H F w a ac.tmps)(hH:r4 W ρ H F w)(hG:GOk E F w)(hcalls:∀f,e8 E.P E.G f (E.call f))
  (he:(evalOp E a H (Na1 tr (jb8 E.P ops o))).run=some (x,H')):i6 E.P o ac w (C4 W ρ H F w x H'):=by
 have hs:∀{x:b9} {H':List c7},(evalOp E a H (jb8 E.P ops o)).run=some (x,H')->i6 E.P o ac w (C4 W ρ H F w x H'):=λh=>dc1 hA hH hG hcalls h
 revert hs he
 generalize jb8 E.P ops o=q;intro he hs;cases q with
 |bslice e es n z l =>
  simp only[Na1] at he
  split at he
  ·exact hs he
  ·exact Zc3 hs he
 |mksl e es bb z l c =>
  simp only[Na1] at he
  split at he
  ·exact hs he
  ·exact Td3 hs he
 |asl n es y =>
  simp only[Na1,evalOp] at he;cases he
 |mkfz f caps =>
  simp only[Na1,evalOp] at he;cases he
 |_=>exact hs he
end
section
variable{W:Nat->Prop}{ρ ρ0:Rho}{H H0 H2:List c7}{F F0:Fz}{w w0:World}{k:Nat}{roots:List Nat}
structure TOk(k:Nat)(roots:List Nat):Prop where
 nodup:roots.Nodup
 first:∀i,i<k->roots[i]?=some i
def TLe(r s:List Nat):Prop:=∀(i:Nat) y,r[i]?=some y->s[i]?=some y
theorem TLe.refl(r:List Nat):TLe r r:=λ_ _ h=>h
theorem TLe.trans{r s t:List Nat}(h:TLe r s)(k:TLe s t):TLe r t:=λi y hy=>k i y (h i y hy)
theorem TOk.start(k:Nat):TOk k (List.range k):=⟨List.nodup_range,λi hi=>by rw[List.getElem?_range hi]⟩
theorem TOk.idx{id j:Nat}{r:List Nat}(hr:TOk k roots)(h:ma6 roots id=(j,r)):TOk k r/\TLe roots r/\r[j]?=some id:=by
 obtain⟨h1,h2,h3,_⟩:=yc0 hr.nodup h;exact⟨⟨h2,λi hi=>h3 i i (hr.first i hi)⟩,h3,h1⟩
def gAt(k j g:Nat):Nat:=match Nat.blt j k with | true=>g | false=>0
inductive TC (k:Nat) (H:List c7) (r:List Nat):b9->b9->Prop
 |unk (x:b9):TC k H r x .unk
 |ptr (id i c g j:Nat) (b:c7) (hb:blkAt H id g=some b) (hj:r[j]?=some id):TC k H r (.ptr id i c g) (.ptr j i c (gAt k j g))
 |sl (id off n g j:Nat) (b:c7) (hb:blkAt H id g=some b) (hj:r[j]?=some id):TC k H r (.sl id off n g) (.sl j off n (gAt k j g))
 |same (x:b9) (h:match x with | .ptr .. | .sl ..=>False | _=>True):TC k H r x x
inductive TV (k:Nat) (H:List c7) (r:List Nat):b9->b9->Prop
 |cell {x z:b9} (hx:Zc1 x=true) (h:TC k H r x z):TV k H r x z
 |agg (cs ds:List b9) (hl:ds.length=cs.length) (h:∀(i:Nat) x z,cs[i]?=some x->ds[i]?=some z->TC k H r x z):TV k H r (.agg cs) (.agg ds)
 |fn (f:FuncId) (cs ds:List b9) (hl:ds.length=cs.length) (h:∀(i:Nat) x z,cs[i]?=some x->ds[i]?=some z->TC k H r x z):TV k H r (.fn f cs) (.fn f ds)
 |tup (l:List b9):TV k H r (.tup l) (.tup l)
inductive TW (k:Nat) (H:List c7) (r:List Nat):b9->b9->Prop
 |val {x z:b9} (hx:∀l,x≠.tup l) (h:TV k H r x z):TW k H r x z
 |tup (cs ds:List b9) (hl:ds.length=cs.length) (h:∀(i:Nat) x z,cs[i]?=some x->ds[i]?=some z->TV k H r x z):TW k H r (.tup cs) (.tup ds)
theorem TC.le{r s:List Nat}{x z:b9}(h:TC k H r x z)(hle:TLe r s):TC k H s x z:=by
 cases h with
 |unk x=>exact .unk x
 |ptr id i c g j b hb hj=>exact .ptr id i c g j b hb (hle _ _ hj)
 |sl id off n g j b hb hj=>exact .sl id off n g j b hb (hle _ _ hj)
 |same x h=>exact .same x h
theorem TV.le{r s:List Nat}{x z:b9}(h:TV k H r x z)(hle:TLe r s):TV k H s x z:=by
 cases h with
 |cell hx h=>exact .cell hx (h.le hle)
 |agg cs ds hl h=>exact .agg cs ds hl λi x z hx hz=>(h i x z hx hz).le hle
 |fn f cs ds hl h=>exact .fn f cs ds hl λi x z hx hz=>(h i x z hx hz).le hle
 |tup l=>exact .tup l
theorem TW.le{r s:List Nat}{x z:b9}(h:TW k H r x z)(hle:TLe r s):TW k H s x z:=by
 cases h with
 |val hx h=>exact .val hx (h.le hle)
 |tup cs ds hl h=>exact .tup cs ds hl λi x z hx hz=>(h i x z hx hz).le hle
theorem md2{x z:b9}{r:List Nat}(hr:TOk k roots)(h:wc3 k H roots x=(z,r)):TOk k r/\TLe roots r/\TC k H r x z:=by
 have hsame:∀{y:b9},(y,roots)=(z,r)->TC k H roots x y->TOk k r/\TLe roots r/\TC k H r x z:=λ{y} e hc=>by
  injection e with e1 e2;subst e1 e2;exact⟨hr,.refl _,hc⟩
 unfold wc3 at h;cases x with
 |ptr id i c g =>
  simp only at h
  cases hb:blkAt H id g with
  |none=>simp only[hb] at h;exact hsame h (.unk _)
  |some b =>
   simp only[hb] at h;cases hi:ma6 roots id with
   |mk j r2 =>
    simp only[hi] at h;injection h with e1 e2;subst e1 e2;obtain⟨h1,h2,h3⟩:=hr.idx hi;exact⟨h1,h2,.ptr id i c g j b hb h3⟩
 |sl id off n g =>
  simp only at h
  cases hb:blkAt H id g with
  |none=>simp only[hb] at h;exact hsame h (.unk _)
  |some b =>
   simp only[hb] at h;cases hi:ma6 roots id with
   |mk j r2 =>
    simp only[hi] at h;injection h with e1 e2;subst e1 e2;obtain⟨h1,h2,h3⟩:=hr.idx hi;exact⟨h1,h2,.sl id off n g j b hb h3⟩
 |_=>exact hsame h (.same _ trivial)
theorem yc2:∀{l z:List b9} {roots r:List Nat},TOk k roots->Sb5 k H l roots=(z,r)->TOk k r/\TLe roots r/\z.length=l.length/\∀(i:Nat) x y,l[i]?=some x->z[i]?=some y->TC k H r x y
 |[],z,roots,r,hr,h=>by
  simp only[Sb5] at h;injection h with e1 e2;subst e1 e2;exact⟨hr,.refl _,rfl,λi x y hx=>by simp at hx⟩
 |x::l,z,roots,r,hr,h=>by
  simp only[Sb5] at h;cases h1:wc3 k H roots x with
  |mk y r1 =>
  simp only[h1] at h;cases h2:Sb5 k H l r1 with
  |mk l2 r2 =>
  simp only[h2] at h;injection h with e1 e2;subst e1 e2;obtain⟨a1,a2,a3⟩:=md2 hr h1;obtain⟨b1,b2,b3,b4⟩:=yc2 a1 h2;refine⟨b1,a2.trans b2,by simp[b3],λi u v hu hv=>?_⟩
  cases i with
  |zero=>simp at hu hv;subst hu hv;exact a3.le b2
  |succ i=>exact b4 i u v (by simpa using hu) (by simpa using hv)
theorem Rc6{x z:b9}{r:List Nat}(hr:TOk k roots)(h:wb3 k H roots x=(z,r)):TOk k r/\TLe roots r/\TV k H r x z:=by
 have h1:∀(hx:Zc1 x=true),wc3 k H roots x=(z,r)->TOk k r/\TLe roots r/\TV k H r x z:=λhx h=>by
  obtain⟨a1,a2,a3⟩:=md2 hr h;exact⟨a1,a2,.cell hx a3⟩
 cases x with
 |fn f caps =>
  simp only[wb3] at h;cases h2:Sb5 k H caps roots with
  |mk l r2 =>
  simp only[h2] at h;injection h with e1 e2;subst e1 e2;obtain⟨b1,b2,b3,b4⟩:=yc2 hr h2;exact⟨b1,b2,.fn f caps l b3 b4⟩
 |agg caps =>
  simp only[wb3] at h;cases h2:Sb5 k H caps roots with
  |mk l r2 =>
  simp only[h2] at h;injection h with e1 e2;subst e1 e2;obtain⟨b1,b2,b3,b4⟩:=yc2 hr h2;exact⟨b1,b2,.agg caps l b3 b4⟩
 |tup l =>
  simp only[wb3,wc3] at h;injection h with e1 e2;subst e1 e2;exact⟨hr,.refl _,.tup l⟩
 |_=>exact h1 rfl h
theorem Rc7:∀{l z:List b9} {roots r:List Nat},TOk k roots->Ob1 k H l roots=(z,r)->TOk k r/\TLe roots r/\z.length=l.length/\∀(i:Nat) x y,l[i]?=some x->z[i]?=some y->TV k H r x y
 |[],z,roots,r,hr,h=>by
  simp only[Ob1] at h;injection h with e1 e2;subst e1 e2;exact⟨hr,.refl _,rfl,λi x y hx=>by simp at hx⟩
 |x::l,z,roots,r,hr,h=>by
  simp only[Ob1] at h;cases h1:wb3 k H roots x with
  |mk y r1 =>
  simp only[h1] at h;cases h2:Ob1 k H l r1 with
  |mk l2 r2 =>
  simp only[h2] at h;injection h with e1 e2;subst e1 e2;obtain⟨a1,a2,a3⟩:=Rc6 hr h1;obtain⟨b1,b2,b3,b4⟩:=Rc7 a1 h2;refine⟨b1,a2.trans b2,by simp[b3],λi u v hu hv=>?_⟩
  cases i with
  |zero=>simp at hu hv;subst hu hv;exact a3.le b2
  |succ i=>exact b4 i u v (by simpa using hu) (by simpa using hv)
theorem yc3{x z:b9}{r:List Nat}(hr:TOk k roots)(h:wc4 k H roots x=(z,r)):TOk k r/\TLe roots r/\TW k H r x z:=by
 have h1:(∀l,x≠.tup l)->wb3 k H roots x=(z,r)->TOk k r/\TLe roots r/\TW k H r x z:=λhx h=>by
  obtain⟨a1,a2,a3⟩:=Rc6 hr h;exact⟨a1,a2,.val hx a3⟩
 cases x with
 |tup caps =>
  simp only[wc4] at h;cases h2:Ob1 k H caps roots with
  |mk l r2 =>
  simp only[h2] at h;injection h with e1 e2;subst e1 e2;obtain⟨b1,b2,b3,b4⟩:=Rc7 hr h2;exact⟨b1,b2,.tup caps l b3 b4⟩
 |_=>exact h1 (λ_ e=>by cases e) h
theorem yc4:∀{l z:List b9} {roots r:List Nat},TOk k roots->Sb6 k H l roots=(z,r)->TOk k r/\TLe roots r/\z.length=l.length/\∀(i:Nat) x y,l[i]?=some x->z[i]?=some y->TW k H r x y
 |[],z,roots,r,hr,h=>by
  simp only[Sb6] at h;injection h with e1 e2;subst e1 e2;exact⟨hr,.refl _,rfl,λi x y hx=>by simp at hx⟩
 |x::l,z,roots,r,hr,h=>by
  simp only[Sb6] at h;cases h1:wc4 k H roots x with
  |mk y r1 =>
  simp only[h1] at h;cases h2:Sb6 k H l r1 with
  |mk l2 r2 =>
  simp only[h2] at h;injection h with e1 e2;subst e1 e2;obtain⟨a1,a2,a3⟩:=yc3 hr h1;obtain⟨b1,b2,b3,b4⟩:=yc4 a1 h2;refine⟨b1,a2.trans b2,by simp[b3],λi u v hu hv=>?_⟩
  cases i with
  |zero=>simp at hu hv;subst hu hv;exact a3.le b2
  |succ i=>exact b4 i u v (by simpa using hu) (by simpa using hv)
def reG(k j:Nat)(b:c7):c7:=match Nat.blt j k with | true=>b | false=>{ b with g:=0 }
theorem xb5:∀{roots:List Nat} {j0:Nat} {H2:List c7},sa0 k H j0 roots=some H2->H2.length=roots.length/\∀(j:Nat) id,roots[j]?=some id->∃b,H[id]?=some b/\H2[j]?=some (reG k (j0+j) b)
 |[],j0,H2,h=>by
  simp only[sa0] at h
  simp_all
 |id::roots,j0,H2,h=>by
  simp only[sa0,p9] at h;cases hb:H[id]? with
  |none=>simp[hb] at h
  |some b =>
  simp only[hb] at h;cases hr:sa0 k H (j0+1) roots with
  |none=>simp[hr] at h
  |some l =>
  simp only[hr] at h;injection h with h;subst h
  obtain⟨h1,h2⟩:=xb5 hr;refine⟨by simp[h1],λj id' hj=>?_⟩
  cases j with
  |zero=>simp at hj;subst hj;exact⟨b,hb,rfl⟩
  |succ j =>
   grind
theorem sa2(j:Nat)(b:c7):(reG k j b).dead=b.dead:=by unfold reG;split<;>rfl
theorem Zc4(j:Nat)(b:c7):(reG k j b).own=b.own:=by unfold reG;split<;>rfl
theorem Ua9(j:Nat)(b:c7):(reG k j b).es=b.es:=by unfold reG;split<;>rfl
theorem ya6(j:Nat)(b:c7):(reG k j b).elems=b.elems:=by unfold reG;split<;>rfl
theorem Pb2(j:Nat)(b:c7):(reG k j b).et=b.et:=by unfold reG;split<;>rfl
theorem Le9(j:Nat)(b:c7):(reG k j b).g=gAt k j b.g:=by unfold reG gAt;split<;>rfl
section
variable(hr:TOk k roots)(hH:r4 W ρ H F w)(hb:sa0 k H 0 roots=some H2)
include hb
theorem Tb6{j:Nat}{c:c7}(hc:H2[j]?=some c):∃id b,roots[j]?=some id/\(roots[j]?).getD 0=id/\H[id]?=some b/\c=reG k j b:=by
 obtain⟨hl,hat⟩:=xb5 hb
 grind
include hr hH in
theorem Fb6:r4 W (λj=>ρ ((roots[j]?).getD 0)) H2 F w:=by
 refine⟨λj c hc hd=>?_,λj j' c c' hc hc' hd hd' ho hne=>?_,hH.frz,hH.new⟩
 ·obtain⟨id,b,h1,h2,h3,h4⟩:=Tb6 hb hc;subst h4;rw[sa2] at hd;obtain⟨cc,t,fr,hB⟩:=hH.blk id b h3 hd;simp only[h2];exact⟨cc,t,fr,hB.obj,hB.room,by rw[ya6,Ua9];exact hB.len,by rw[ya6,Ua9];exact hB.rows,by rw[ya6,Ua9];exact hB.cell,by rw[Zc4,Pb2];exact hB.own,by rw[Zc4,ya6,Ua9];exact hB.kept⟩
 ·obtain⟨id,b,h1,h2,h3,h4⟩:=Tb6 hb hc;obtain⟨id',b',h1',h2',h3',h4'⟩:=Tb6 hb hc';subst h4 h4';simp only[h2,h2'];rw[sa2] at hd hd';rw[Zc4] at ho;refine hH.apart id id' b b' h3 h3' hd hd' ho λe=>hne ?_
  subst e;obtain⟨a1,a2⟩:=Qab.1 h1;obtain⟨b1,b2⟩:=Qab.1 h1';exact (Qcm hr.nodup).1 (a2.trans b2.symm)
theorem Fb7{x z:b9}{x':Value}(h:TC k H roots x z)(hx:J9 ρ H F w x x'):J9 (λj=>ρ ((roots[j]?).getD 0)) H2 F w z x':=by
 obtain⟨hl,hat⟩:=xb5 hb;cases h with
 |unk x=>exact .unk _
 |ptr id i c g j b hb1 hj =>
  obtain⟨hb2,hd2,hg2⟩:=p5 hb1;obtain⟨b',k1,k2⟩:=hat j id hj
  have:b'=b:=Qah (k1.symm.trans hb2)
  subst this;rw[Qbh] at k2;obtain⟨ad,b3,e,m1,m2,m3,m4⟩:=la0 (.val (.cell hx))
  have:b3=b':=Qah (m1.symm.trans hb2)
  subst this;rw[e];refine .ptr j i c _ ad _ k2 (by rw[sa2];exact hd2) (by rw[Le9,hg2];exact Qac _) λ_=>?_
  rw[m4 hg2,Ua9];simp[hj]
 |sl id off n g j b hb1 hj =>
  obtain⟨hb2,hd2,hg2⟩:=p5 hb1;obtain⟨b',k1,k2⟩:=hat j id hj
  have:b'=b:=Qah (k1.symm.trans hb2)
  subst this;rw[Qbh] at k2;obtain⟨ad,cap,b3,e,m1,m2,m3,m4,m5,m6,m7⟩:=wa9 (.val (.cell hx))
  have:b3=b':=Qah (m1.symm.trans hb2)
  subst this;rw[e];refine .sl j off n _ ad cap _ k2 (by rw[sa2];exact hd2) (by rw[Le9,hg2];exact Qac _) m4 m5 m6 λ_=>?_
  have:=m7 hg2
  rw[Ua9,ya6];simpa [hj] using this
 |same x hs =>
  cases hx with
  |mem h=>exact .mem h
  |v=>exact .v _
  |ptr=>exact hs.elim
  |sl=>exact hs.elim
  |tptr cs a vs h1 h2 h3 h4=>exact .tptr cs a vs h1 h2 h3 h4
  |unk x'=>exact .unk _
theorem md3{x z:b9}{x':Value}(h:TV k H roots x z)(hx:S5 ρ H F w x x'):S5 (λj=>ρ ((roots[j]?).getD 0)) H2 F w z x':=by
 cases h with
 |cell hbare h =>
  cases hx with
  |cell hx=>exact .cell (Fb7 hb h hx)
  |_=>cases hbare
 |agg cs ds hl h =>
  obtain⟨vs,e,hl2,h2⟩:=ga4 (.val hx);rw[e];refine .agg ds vs (hl.trans hl2) λi y y' hy hy'=>?_
  have hi:i<cs.length:=hl ▸ (Qab.1 hy).1;exact Fb7 hb (h i _ y (Qaa hi) hy) (h2 i _ y' (Qaa hi) hy')
 |fn f cs ds hl h =>
  obtain⟨vs,e,hl2,h2⟩:=eb9 (.val hx);rw[e];refine .fn f ds vs (hl.trans hl2) λi y y' hy hy'=>?_
  have hi:i<cs.length:=hl ▸ (Qab.1 hy).1;exact Fb7 hb (h i _ y (Qaa hi) hy) (h2 i _ y' (Qaa hi) hy')
 |tup l =>
  cases hx with
  |cell hx=>cases hx with
   |mem h=>cases h
theorem Zc5{x z:b9}{x':Value}(h:TW k H roots x z)(hx:v8 ρ H F w x x'):v8 (λj=>ρ ((roots[j]?).getD 0)) H2 F w z x':=by
 cases h with
 |val hnt h =>
  cases hx with
  |val hx=>exact .val (md3 hb h hx)
  |tup cs vs hl h2=>exact absurd rfl (hnt cs)
 |tup cs ds hl h =>
  obtain⟨vs,e,hl2,h2⟩:=Yc7 hx;rw[e];refine .tup ds vs (hl.trans hl2) λi y y' hy hy'=>?_
  have hi:i<cs.length:=hl ▸ (Qab.1 hy).1;exact md3 hb (h i _ y (Qaa hi) hy) (h2 i _ y' (Qaa hi) hy')
end
end
section
variable{W:Nat->Prop}{ρ ρ0:Rho}{H H0:List c7}{F F0:Fz}{w w0:World}{E:Env}
def Inv(W:Nat->Prop)(ρ0:Rho)(H0:List c7)(F0:Fz)(w0:World)(s:St)(ac:Act)(w:World):Prop :=
 ac.defers=[]/\∃ρ F,Adv W ρ0 H0 F0 w0 ρ s.H F w/\r4 W ρ s.H F w/\da4 ρ s.H F w s.a ac.tmps
theorem Fb8(a:List b9)(dst:Option Nat)(x:b9):putA a dst x=match dst with | some d=>a.set d x | none=>a:=by
 have:putA a dst x=Option.rec (motive:=λ_=>List b9) a (λd=>setAt a d x) dst:=rfl
 rw[this];cases dst with
 |none=>rfl
 |some d=>simp[r6]
theorem da4.putA{a:List b9}{ac:Act}(h:da4 ρ H F w a ac.tmps)(dst:Option Nat){x:b9}{x':Value}(hx:v8 ρ H F w x x'):da4 ρ H F w (Ev.putA a dst x) (ac.put dst x').tmps:=by
 rw[Fb8];cases dst with
 |none=>exact h
 |some d=>exact h.put d hx
theorem o5{ac:Act}(dst:Option Nat)(x:Value):(ac.put dst x).defers=ac.defers:=by cases dst<;>rfl
theorem md4{s:St}{n:Nat}{x:b9}(hx:x≠.unk)(h:c9 E s.a (.t n)=x):setAt s.a n x=s.a:=by
 rw[Ra2] at h;rw[r6]
 rcases Qan n s.a.length with hlt|hge
 ·rw[Qaa hlt] at h;simp only[Option.getD_some] at h;subst h
  simp_all
 simp_all
theorem lc1 (s : St) (dst : Option Nat) (g : Nat × Bool) (hide : List Nat) (op : PO) : (Aa3 E s ⟨dst, some g, hide, op⟩).run = (match c9 E s.a (.t g.1) with
   |.v (.bool b)=>.ite (match g.2 with | true=>b | false=>!b) (pc2 E s ⟨dst,some g,hide,op⟩) (.ret ⟨putA s.a dst (.v (.tuple #[])),s.H⟩)
   |.v (.tuple _)=>.ret ⟨putA s.a dst (.v (.tuple #[])),s.H⟩
   |_=>.fail:DT St).run:=by
 obtain⟨d,want⟩:=g
 have e : Aa3 E s ⟨dst, some (d, want), hide, op⟩ = (match c9 E s.a (.t d) with
   | .v (.bool b) => Bool.rec (motive := fun _ => DT St)
     (.ite b (.ret ⟨putA (setAt s.a d (.v (.bool true))) dst (.v (.tuple #[])),s.H⟩) (pc2 E ⟨setAt s.a d (.v (.bool false)),s.H⟩ ⟨dst,some (d,want),hide,op⟩))
     (.ite b (pc2 E ⟨setAt s.a d (.v (.bool true)),s.H⟩ ⟨dst,some (d,want),hide,op⟩) (.ret ⟨putA (setAt s.a d (.v (.bool false))) dst (.v (.tuple #[])),s.H⟩)) want
   |.v (.tuple _)=>.ret ⟨putA s.a dst (.v (.tuple #[])),s.H⟩
   |_=>.fail):=rfl
 rw[e];have hk:∀b,c9 E s.a (.t d)=.v (.bool b)->setAt s.a d (.v (.bool b))=s.a:=λb h=>md4 (E:=E) (by simp) h
 revert hk
 generalize c9 E s.a (.t d)=u;intro hk;cases u with
 |v x =>
  cases x with
  |bool b =>
   have:=hk b rfl
   cases want<;>cases b<;>simp only[DT.run_ite,this]<;>rfl
  |_=>rfl
 |_=>rfl
theorem pb0{ops:Array Oper}{tmps:Array Value}{j d:Nat}{oj:Oper}{b:Bool}(hj:ops[j]?=some oj)(hd:oj.dst=some d)(h:tmps[d]?=some (.bool b)):yielded ops tmps j=some b:=by
 simp[yielded,hj,hd,h]
theorem fb1{ops:Array Oper}{tmps:Array Value}{j d:Nat}{oj:Oper}{vs:Array Value}(hj:ops[j]?=some oj)(hd:oj.dst=some d)(h:tmps[d]?=some (.tuple vs)):yielded ops tmps j=none:=by
 simp[yielded,hj,hd,h]
theorem lc2{ops:Array Oper}{o:Oper}{g:Option (Nat×Bool)}{hide:List Nat}{op:PO}{s s':St}{ac:Act}(hg:S6 ops o=some g)(hA:da4 ρ H F w s.a ac.tmps)
  (he:(Aa3 E s ⟨o.dst,g,hide,op⟩).run=some s') :
  (Region.wanted o (yielded ops ac.tmps)=true/\(pc2 E s ⟨o.dst,g,hide,op⟩).run=some s')\/(Region.wanted o (yielded ops ac.tmps)=false/\s'=⟨putA s.a o.dst (.v (.tuple #[])),s.H⟩):=by
 unfold S6 at hg;unfold Region.wanted;cases hgo:o.guard with
 |none =>
  simp only[hgo] at hg ⊢;injection hg with hg;subst hg;exact .inl ⟨trivial,he⟩
 |some jw =>
  obtain⟨j,want⟩:=jw;simp only[hgo] at hg ⊢;cases hj:ops[j]? with
  |none=>simp[hj] at hg
  |some oj =>
  simp only[hj] at hg;cases hd:oj.dst with
  |none=>simp[hd] at hg
  |some d =>
  simp only[hd] at hg;injection hg with hg;subst hg;rw[lc1] at he;have hev:=Ra2 E s.a d;have hrel:∀v,c9 E s.a (.t d)=.v v->ac.tmps[d]?=some v:=λv hv=>by
   rw[hev] at hv
   rcases Qan d s.a.length with hlt|hge
   ·rw[Qaa hlt] at hv;have hlt':d<ac.tmps.size:=hA.1 ▸ hlt;have h1:=hA.2 d _ _ (Qaa hlt) (Qai hlt');simp only[Option.getD_some] at hv;rw[hv] at h1;rw[Qai hlt',K5 h1]
   ·rw[Qal hge] at hv;cases hv
  revert he hrel
  generalize c9 E s.a (.t d)=u;intro he hrel
  split at he
  ·rename_i b;have hb:=hrel _ rfl;rw[pb0 hj hd hb]
   rcases DT.run_ite_some he with⟨h1,h2⟩|⟨h1,h2⟩
   ·grind
   ·refine .inr ⟨?_,?_⟩
    ·grind
    ·simpa using h2.symm
  ·rename_i vs;have hb:=hrel _ rfl;rw[fb1 hj hd hb]
   simp_all
  ·cases he
theorem Rc8{P:Program}{ops:Array Oper}{o:Oper}{r:List Oper}{l:List PI}(h:Ob4 P ops (o::r)=some l):∃g l',S6 ops o=some g/\Ob4 P ops r=some l'/\l=⟨o.dst,g,[],jb8 P ops o⟩::l':=by
 simp only[Ob4] at h
 grind
section
variable(hG0:GOk E F0 w0)(hcalls:∀f,e8 E.P E.G f (E.call f))
include hG0 hcalls
theorem be6{ops:Array Oper}{o:Oper}{g:Option (Nat×Bool)}{s s':St}{ac:Act}{i:Nat}{Q:Exit->Act->World->Prop}{K:Act->World->Prop}(hi:ops[i]?=some o)(hg:S6 ops o=some g)
  (hI:Inv W ρ0 H0 F0 w0 s ac w) (he:(Aa3 E s ⟨o.dst,g,[],jb8 E.P ops o⟩).run=some s') (hK:∀ac' w',Inv W ρ0 H0 F0 w0 s' ac' w'->K ac' w'):wpOp E.P ops Q i K ac w:=by
 obtain⟨hd,ρ,F,hAdv,hH,hA⟩:=hI;unfold wpOp;simp only[hi]
 rcases lc2 hg hA he with⟨hw,he⟩|⟨hw,he⟩
 ·rw[if_pos hw];refine .inl ?_;unfold pc2 at he;obtain⟨⟨x,H'⟩,h1,h2⟩:=DT.run_bind_some he;have h1':(evalOp E s.a s.H (jb8 E.P ops o)).run=some (x,H'):=h1;refine dc1 hA hH (hG0.adv hAdv) hcalls h1' K Q λx' w' hp=>?_
  obtain⟨ρ',F',a1,a2,a3⟩:=hp;have h2':some (⟨putA s.a o.dst x,H'⟩:St)=some s':=h2;injection h2' with h2';subst h2';exact hK _ _ ⟨(o5 _ _).trans hd,ρ',F',hAdv.trans a1,a2,(hA.adv a1).putA o.dst a3⟩
 ·rw[if_neg (by simp[hw])]
  subst he;exact hK _ _ ⟨(o5 _ _).trans hd,ρ,F,hAdv,hH,hA.putA o.dst (.ofv _)⟩
theorem Rc9{ops:Array Oper}{Q:Exit->Act->World->Prop}:∀(r:List Oper) (k:Nat) (l:List PI) (s s':St) (ac:Act) (w:World),ops.toList.drop k=r->Ob4 E.P ops r=some l->Inv W ρ0 H0 F0 w0 s ac w->(D8 E l s).run=some s' ->
  (∀ac' w',Inv W ρ0 H0 F0 w0 s' ac' w'->Q .normal ac' w')->wpOps E.P ops Q (List.range' k r.length) ac w
 |[],k,l,s,s',ac,w,hr,hl,hI,he,hQ=>by
  simp only[Ob4] at hl;injection hl with hl;subst hl;have he':some s=some s':=he;injection he' with he';subst he';exact hQ ac w hI
 |o::r,k,l,s,s',ac,w,hr,hl,hI,he,hQ=>by
  obtain⟨g,l',h1,h2,rfl⟩:=Rc8 hl;have he':((Aa3 E s ⟨o.dst,g,[],jb8 E.P ops o⟩).bind (D8 E l')).run=some s':=he;obtain⟨s1,h3,h4⟩:=DT.run_bind_some he';have hi:ops[k]?=some o:=by
   have:(ops.toList.drop k)[0]?=some o:=by rw[hr];rfl
   simpa using this
  rw[show (o::r).length=r.length+1 from rfl,List.range'_succ,wpOps_cons]
  refine be6 hG0 hcalls hi h1 hI h3 λac' w' hI'=>?_
  refine Rc9 r (k+1) l' s1 s' ac' w' ?_ h2 hI' h4 hQ;rw[<- List.drop_drop,hr];rfl
end
def toX:d8->Exit
 |.normal=>.normal
 |.exit id=>.exit id
 |.ret=>.ret
inductive F7 (P:Program):Code->PC->Prop
 |skip:F7 P .skip .skip
 |ops (id:Nat) (ops:Array Oper) (l:List PI) (h:Ob4 P ops ops.toList=some l):F7 P (.region id ops false) (.ops l)
 |draw (id:Nat) (ops:Array Oper) (dsts:List Nat) (asq l:List PI) (ps:List (PO×PO)) (h:ra5 P ops=.draw dsts asq l ps):F7 P (.region id ops true) (.draw dsts asq l ps)
 |seq {a b:Code} {x y:PC} (ha:F7 P a x) (hb:F7 P b y):F7 P (.seq a b) (.seq x y)
 |cond (c:Operand) {a b:Code} {x y:PC} (ha:F7 P a x) (hb:F7 P b y):F7 P (.cond c a b) (.cond (g9 c) x y)
 |block (id:Nat) {a:Code} {x:PC} (ha:F7 P a x):F7 P (.block id a) (.block id x)
 |loop (keep:List Nat) {a:Code} {x:PC} (ha:F7 P a x):F7 P (.loop a) (.loop keep x)
 |scope {a:Code} {x:PC} (ha:F7 P a x):F7 P (.scope a) x
 |label (l:Nat):F7 P (.label l) .skip
 |exit (id:Nat):F7 P (.exit id) (.exit id)
 |ret:F7 P .ret .ret
 |bad (c:Code):F7 P c .bad
theorem xe1(P:Program):∀c:Code,F7 P c (Sb8 P c):=by
 intro c
 induction c with
 |skip=>exact .skip
 |region id ops d =>
  cases d with
  |false =>
   show F7 P _ (match Ob4 P ops ops.toList with | some l=>PC.ops l | none=>.bad)
   cases h:Ob4 P ops ops.toList with
   |none=>exact .bad _
   |some l=>exact .ops id ops l h
  |true =>
   show F7 P _ (ra5 P ops);have hT:∀tr,(∃a b c d,Aa8 tr P ops=.draw a b c d)\/Aa8 tr P ops=.bad:=λtr=>by
    unfold Aa8 wc7
    simp only
    split
    ·split
     ·exact .inl ⟨_,_,_,_,rfl⟩
     ·exact .inr rfl
    ·exact .inr rfl
   have hc:(∃a b c d,ra5 P ops=.draw a b c d)\/ra5 P ops=.bad:=by
    unfold ra5
    grind
   rcases hc with⟨a,b,c,d,h⟩|h
   ·rw[h];exact .draw id ops a b c d h
   ·rw[h];exact .bad _
 |seq a b ha hb=>exact .seq ha hb
 |cond c a b ha hb=>exact .cond c ha hb
 |block id a ha=>exact .block id ha
 |loop a ha=>exact .loop _ ha
 |scope a ha=>exact .scope ha
 |label l=>exact .label l
 |exit id=>exact .exit id
 |ret=>exact .ret
 |_=>exact .bad _
theorem F7.note{P:Program}{c:Code}{x:PC}(h:F7 P c x)(n ret:Nat):∀(out:Nat) (ex:Nat->Nat),F7 P c (Ev.note n ret x out ex):=by
 induction h with
 |skip=>exact λ_ _=>.skip
 |ops id ops l h=>exact λ_ _=>.ops id ops l h
 |draw id ops dsts asq l ps h=>exact λ_ _=>.draw id ops dsts asq l ps h
 |seq ha hb iha ihb=>exact λout ex=>.seq (iha _ _) (ihb _ _)
 |cond c ha hb iha ihb=>exact λout ex=>.cond c (iha _ _) (ihb _ _)
 |block id ha ih=>exact λout ex=>.block id (ih _ _)
 |loop keep ha ih=>exact λout ex=>.loop _ (ih _ _)
 |scope ha ih=>exact λout ex=>.scope (ih out ex)
 |label l=>exact λ_ _=>.label l
 |exit id=>exact λ_ _=>.exit id
 |ret=>exact λ_ _=>.ret
 |bad c=>exact λ_ _=>.bad c
theorem Inv.keep{s:St}{ac:Act}{a:List b9}(h:Inv W ρ0 H0 F0 w0 s ac w)(ha:a.length=s.a.length)(hat:∀(i:Nat) x,a[i]?=some x->x=.unk\/s.a[i]?=some x):Inv W ρ0 H0 F0 w0 ⟨a,s.H⟩ ac w:=by
 obtain⟨hd,ρ,F,h1,h2,h3⟩:=h;refine⟨hd,ρ,F,h1,h2,ha.trans h3.1,λi x x' hx hx'=>?_⟩
 rcases hat i x hx with rfl|h
 ·exact .unk _
 ·exact h3.2 i x x' h hx'
theorem xb6(keep:List Nat):∀(l:List b9) (k:Nat),(G4 keep l k).length=l.length/\∀(i:Nat) x,(G4 keep l k)[i]?=some x->x=.unk\/l[i]?=some x
 |[],k=>⟨rfl,λi x h=>by simp[G4] at h⟩
 |y::l,k=>by
  obtain⟨h1,h2⟩:=xb6 keep l (k+1);have e:G4 keep (y::l) k=Bool.rec .unk y (Ma5 k keep)::G4 keep l (k+1):=rfl;rw[e];refine⟨by simp[h1],λi x hx=>?_⟩
  cases i with
  |zero =>
   simp at hx
   subst hx;cases Ma5 k keep
   ·exact .inl rfl
   ·exact .inr rfl
  |succ i=>exact h2 i x (by simpa using hx)
theorem Tb7{roots:List Nat}{H2:List c7}(hr:TOk H0.length roots)(hb:sa0 H0.length H 0 roots=some H2)(h:Adv W ρ0 H0 F0 w0 ρ H F w):Adv W ρ0 H0 F0 w0 (λj=>ρ ((roots[j]?).getD 0)) H2 F w:=by
 obtain⟨hl,hat⟩:=xb5 hb;refine⟨h.ext,λid b hid=>?_,h.more,h.new,λid b' hid hn=>?_⟩
 ·have hlt:=(Qab.1 hid).1;obtain⟨b1,h1,h2,h3,h4⟩:=h.heap id b hid;have hroot:=hr.first id hlt;obtain⟨b2,k1,k2⟩:=hat id id hroot
  have:b2=b1:=Qah (k1.symm.trans h1)
  subst this;have hre:reG H0.length (0+id) b2=b2:=by
   rw[Qbh];unfold reG
   have:Nat.blt id H0.length=true:=by simpa [Qch] using hlt
   rw[this]
  simp_all
 ·obtain⟨id',b,h1,h2,h3,h4⟩:=Tb6 hb hid;simp only[h2];by_cases hlt:id<H0.length
  ·have hroot:=hr.first id hlt
   have:id'=id:=Qah (h1.symm.trans hroot)
   subst this;refine h.fresh id' b h3 λbb hbb hg=>hn bb hbb ?_
   rw[h4]
   have:Nat.blt id' H0.length=true:=by simpa [Qch] using hlt
   simp only[reG,this];exact hg
  ·refine h.fresh id' b h3 λbb hbb _=>?_
   have hlt':=(Qab.1 hbb).1;have hroot:=hr.first id' hlt';obtain⟨a1,a2⟩:=Qab.1 h1;obtain⟨b1,b2⟩:=Qab.1 hroot
   have:=(Qcm hr.nodup).1 (a2.trans b2.symm)
   omega
theorem Inv.tidy{s s':St}{ac:Act}(h:Inv W ρ0 H0 F0 w0 s ac w)(he:(Ev.tidy H0.length s).run=some s'):Inv W ρ0 H0 F0 w0 s' ac w:=by
 obtain⟨hd,ρ,F,h1,h2,h3⟩:=h;unfold Ev.tidy at he;cases ht:Sb6 H0.length s.H s.a (List.range H0.length) with
 |mk a roots =>
 simp only[ht] at he;cases hb:sa0 H0.length s.H 0 roots with
 |none=>simp[hb] at he
 |some H2 =>
 simp only[hb] at he;have he':some (⟨a,H2⟩:St)=some s':=he;injection he' with he';subst he';obtain⟨k1,_,k3,k4⟩:=yc4 (TOk.start _) ht;refine⟨hd,_,F,Tb7 k1 hb h1,Fb6 k1 h2 hb,k3.trans h3.1,λi x x' hx hx'=>?_⟩
 have hi:i<s.a.length:=k3 ▸ (Qab.1 hx).1;exact Zc5 hb (k4 i _ x (Qaa hi) hx) (h3.2 i _ x' (Qaa hi) hx')
def Ad2(E:Env):Prop:=∀(W:Nat->Prop) (ρ0:Rho) (H0:List c7) (F0:Fz) (w0:World),GOk E F0 w0 ->
 ∀(id:Nat) (ops:Array Oper) (dsts:List Nat) (asq l:List PI) (ps:List (PO×PO)),ra5 E.P ops=.draw dsts asq l ps ->
 ∀(s x s' ),(A1 E H0.length (.draw dsts asq l ps) s).run=some (x,s')->∀(ac:Act) (w:World) (Q:Exit->Act->World->Prop),Inv W ρ0 H0 F0 w0 s ac w ->
 (∀ac' w',Inv W ρ0 H0 F0 w0 s' ac' w'->Q (toX x) ac' w')->(Code.region id ops true).wp E.P Q ac w
theorem yc5{c:Code}{y:PC}{keep:List Nat} (ih:∀(s:St) (x:d8) (s':St),(A1 E H0.length y s).run=some (x,s')->∀(ac:Act) (w:World) (Q:Exit->Act->World->Prop),Inv W ρ0 H0 F0 w0 s ac w ->
  (∀ac' w',Inv W ρ0 H0 F0 w0 s' ac' w'->Q (toX x) ac' w')->c.wp E.P Q ac w) :
  ∀(n:Nat) (s:St) (x:d8) (s':St),(vb3 (λs=>tidy H0.length ⟨G4 keep s.a 0,s.H⟩) (A1 E H0.length y) n s).run=some (x,s')->∀(ac:Act) (w:World) (Q:Exit->Act->World->Prop),Inv W ρ0 H0 F0 w0 s ac w ->
  (∀ac' w',Inv W ρ0 H0 F0 w0 s' ac' w'->Q (toX x) ac' w')->Code.rounds E.P c Q n ac w
 |0,s,x,s',he,ac,w,Q,hI,hQ=>by cases he
 |n+1,s,x,s',he,ac,w,Q,hI,hQ=>by
  have he':((tidy H0.length ⟨G4 keep s.a 0,s.H⟩).bind λs=>(A1 E H0.length y s).bind λr =>
   d8.rec (motive:=λ_=>DT (d8×St)) (vb3 (λs=>tidy H0.length ⟨G4 keep s.a 0,s.H⟩) (A1 E H0.length y) n r.2) (λid=>.ret (.exit id,r.2)) (.ret (.ret,r.2)) r.1).run=some (x,s'):=he
  obtain⟨s1,h1,h2⟩:=DT.run_bind_some he';obtain⟨⟨x2,s2⟩,h3,h4⟩:=DT.run_bind_some h2;obtain⟨k1,k2⟩:=xb6 keep s.a 0;have hI1:=(hI.keep (a:=G4 keep s.a 0) k1 k2).tidy h1;rw[rounds_succ];refine ih s1 x2 s2 h3 ac w _ hI1 λac' w' hI2=>?_
  cases x2 with
  |normal=>exact yc5 ih n s2 x s' h4 ac' w' Q hI2 hQ
  |exit id =>
   have h4':some (d8.exit id,s2)=some (x,s'):=h4;injection h4' with h4';injection h4' with e1 e2;subst e1 e2
   exact hQ _ _ hI2
  |ret =>
   have h4':some (d8.ret,s2)=some (x,s'):=h4;injection h4' with h4';injection h4' with e1 e2;subst e1 e2
   exact hQ _ _ hI2
section
variable(hG0:GOk E F0 w0)(hcalls:∀f,e8 E.P E.G f (E.call f))(hdraw:Ad2 E)
include hG0 hcalls hdraw
theorem Ad3{c:Code}{y:PC}(hc:F7 E.P c y):∀(s:St) (x:d8) (s':St),(A1 E H0.length y s).run=some (x,s')->∀(ac:Act) (w:World) (Q:Exit->Act->World->Prop),Inv W ρ0 H0 F0 w0 s ac w ->
  (∀ac' w',Inv W ρ0 H0 F0 w0 s' ac' w'->Q (toX x) ac' w')->c.wp E.P Q ac w:=by
 induction hc with
 |skip =>
  intro s x s' he ac w Q hI hQ;have he':some (d8.normal,s)=some (x,s'):=he;injection he' with he';injection he' with e1 e2;subst e1 e2
  exact wp_skip (hQ _ _ hI)
 |ops id ops l h =>
  intro s x s' he ac w Q hI hQ;have he':((D8 E l s).bind λs=>.ret (d8.normal,s)).run=some (x,s'):=he
  obtain⟨s1,h1,h2⟩:=DT.run_bind_some he';have h2':some (d8.normal,s1)=some (x,s'):=h2;injection h2' with h2';injection h2' with e1 e2;subst e1 e2
  refine wp_region ?_;rw[List.range_eq_range']
  have:=Rc9 (Q:=Q) hG0 hcalls ops.toList 0 l s s1 ac w rfl h hI h1 hQ
  simpa using this
 |draw id ops dsts asq l ps h =>
  intro s x s' he ac w Q hI hQ;exact hdraw W ρ0 H0 F0 w0 hG0 id ops dsts asq l ps h s x s' he ac w Q hI hQ
 |seq ha hb iha ihb =>
  intro s x s' he ac w Q hI hQ;obtain⟨⟨x1,s1⟩,h1,h2⟩:=DT.run_bind_some he;refine wp_seq (iha s x1 s1 h1 ac w _ hI λac' w' hI'=>?_)
  cases x1 with
  |normal=>exact ihb s1 x s' h2 ac' w' Q hI' hQ
  |exit id =>
   have h2':some (d8.exit id,s1)=some (x,s'):=h2;injection h2' with h2';injection h2' with e1 e2;subst e1 e2
   exact hQ _ _ hI'
  |ret =>
   have h2':some (d8.ret,s1)=some (x,s'):=h2;injection h2' with h2';injection h2' with e1 e2;subst e1 e2
   exact hQ _ _ hI'
 | @cond c a b y z ha hb iha ihb =>
  intro s x s' he ac w Q hI hQ;have he':(match c9 E s.a (g9 c) with
   |.v (.bool b)=>DT.ite b (A1 E H0.length y s) (A1 E H0.length z s)
   |_=>DT.fail).run=some (x,s'):=he
  have hc:v8 _ _ _ _ (c9 E s.a (g9 c)) (ac.eval c):=l5 hI.2.choose_spec.choose_spec.2.2 (hG0.adv hI.2.choose_spec.choose_spec.1) c
  revert he' hc
  generalize c9 E s.a (g9 c)=u;intro he' hc
  split at he'
  ·rename_i b;have hb:=K5 hc
   rcases DT.run_ite_some he' with⟨rfl,h⟩|⟨rfl,h⟩
   ·exact wp_cond_true hb (iha s x s' h ac w Q hI hQ)
   ·exact wp_cond_false hb (ihb s x s' h ac w Q hI hQ)
  ·cases he'
 | @block id a y ha ih =>
  intro s x s' he ac w Q hI hQ;obtain⟨⟨x1,s1⟩,h1,h2⟩:=DT.run_bind_some he;refine wp_block (ih s x1 s1 h1 ac w _ hI λac' w' hI'=>?_)
  cases x1 with
  |normal =>
   have h2':some (d8.normal,s1)=some (x,s'):=h2;injection h2' with h2';injection h2' with e1 e2;subst e1 e2
   exact hQ _ _ hI'
  |ret =>
   have h2':some (d8.ret,s1)=some (x,s'):=h2;injection h2' with h2';injection h2' with e1 e2;subst e1 e2
   exact hQ _ _ hI'
  |exit id' =>
   have h2':(Bool.rec (motive:=λ_=>DT (d8×St)) (.ret (.exit id',s1)) (.ret (.normal,s1)) (Nat.beq id' id)).run=some (x,s'):=h2
   show if id'=id then Q .normal ac' w' else Q (.exit id') ac' w'
   cases hb:Nat.beq id' id with
   |true =>
    rw[hb] at h2';have h3:some (d8.normal,s1)=some (x,s'):=h2';injection h3 with h3;injection h3 with e1 e2;subst e1 e2
    rw[if_pos (Qae hb)];exact hQ _ _ hI'
   |false =>
    rw[hb] at h2';have h3:some (d8.exit id',s1)=some (x,s'):=h2';injection h3 with h3;injection h3 with e1 e2;subst e1 e2
    rw[if_neg (Qbae hb)];exact hQ _ _ hI'
 |loop keep ha ih =>
  intro s x s' he ac w Q hI hQ;exact wp_loop_rounds E.N (yc5 ih E.N s x s' he ac w Q hI hQ)
 |scope ha ih =>
  intro s x s' he ac w Q hI hQ;refine wp_scope_straight (ih s x s' he ac w (Exit.noGoto Q) hI λac' w' hI'=>?_)
  have:=hQ ac' w' hI'
  cases x with
  |normal=>exact this
  |exit id=>exact this
  |ret=>exact this
 |label l =>
  intro s x s' he ac w Q hI hQ;have he':some (d8.normal,s)=some (x,s'):=he;injection he' with he';injection he' with e1 e2;subst e1 e2
  exact wp_label (hQ _ _ hI)
 |exit id =>
  intro s x s' he ac w Q hI hQ;have he':some (d8.exit id,s)=some (x,s'):=he;injection he' with he';injection he' with e1 e2;subst e1 e2
  exact wp_exit (hQ _ _ hI)
 |ret =>
  intro s x s' he ac w Q hI hQ;have he':some (d8.ret,s)=some (x,s'):=he;injection he' with he';injection he' with e1 e2;subst e1 e2
  exact wp_ret (hQ _ _ hI)
 |bad c =>
  intro s x s' he ac w Q hI hQ;cases he
end
end
section
variable{W:Nat->Prop}{ρ ρ0:Rho}{H H0:List c7}{F F0:Fz}{w w0:World}{E:Env}
theorem Ad4{P:Program}{t:TypeId}{p z:b9}{p':Value}{cs:List b9}(hH:r4 W ρ H F w)(hy:v8 ρ H F w p p')(hu:P.underlying t≠none)(hl:Ev.loadCells H p (szT P t)=some cs)(h1:eb7 (agT P t) cs=some z) :
  ∃ad z',p'=.pointer (some ad)/\(loadVar t ad).run P w=.ok z' w/\S5 ρ H F w z z':=by
 obtain⟨ad,vs,e,hs,hcl,hvl,hw,hr⟩:=Kb1 hH hy hl;have hti:∃i,P.info? t=some i/\i.size=szT P t:=by
  cases hd:P.underlying t with
  |none=>exact absurd hd hu
  |some d=>exact Ka1 hd
 obtain⟨ti,hi1,hi2⟩:=hti
 rcases Fb0 h1 with⟨hag,rfl⟩|⟨hag,z',rfl,rfl⟩
 ·refine⟨ad,.agg vs.toArray,e,?_,.agg cs vs.toArray (by simp[hcl,hvl]) λi x x' hx hx'=>.mem (hr i x x' hx (by simpa using hx'))⟩
  have hlc:(Go.loadCells ad (szT P t)).run P w=.ok vs.toArray w:=by
   rw[<- hvl];refine run_loadCells_list (P:=P) w ad vs λj v hj=>?_
   have hj':j<szT P t:=by rw[<- hvl];exact (Qab.1 hj).1
   rw[I5 (hs (by omega))]
   exact hw j v hj
  simp[loadVar,Fa8 hag,sizeOf,typeInfo,hi1,hi2,hlc]
 ·have h1:szT P t=1:=by simpa using hcl.symm
  have hv1:vs.length=1:=by omega
  obtain⟨v,rfl⟩:∃v,vs=[v]:=by
   match vs,hv1 with
   |[v],_=>exact⟨v,rfl⟩
  have hc:=hw 0 v rfl;have hsp:=hs (by omega)
  have hcell:w.cell? ad=some v:=by
   obtain⟨b,of,sp⟩:=ad
   simp_all
  exact⟨ad,v,e,by simp[loadVar,xa0 hag hu,hcell],.cell (.mem (hr 0 _ v rfl rfl))⟩
def xe2(tmps:Array Value):ResultVar->Sem Value
 |.tmp t=>pure (tmps.getD t undef)
 |.cell a t=>do loadVar t (<- asAddr (tmps.getD a undef))
def Lc5(P:Program)(w:World)(tmps:Array Value)(r:ResultVar):Value :=
 match r with
 |.tmp t=>tmps.getD t undef
 |.cell a t=>match (do loadVar t (<- asAddr (tmps.getD a undef)):Sem Value).run P w with
  |.ok v _=>v
  |_=>undef
theorem Td4{P:Program}{a:List b9}{tmps:Array Value}(hH:r4 W ρ H F w)(hA:da4 ρ H F w a tmps){r:ResultVar}(hr:jd9 P r=true){x:b9}(hx:Na0 a H (wc9 P r)=some x) :
  (xe2 tmps r).run P w=.ok (Lc5 P w tmps r) w/\S5 ρ H F w x (Lc5 P w tmps r):=by
 have hat:∀{t:Nat} {y:b9},a[t]?=some y->v8 ρ H F w y (tmps.getD t undef):=λ{t y} hy=>by
  have hlt:=(Qab.1 hy).1;have hlt':t<tmps.size:=hA.1 ▸ hlt
  have:=hA.2 t y _ hy (Qai hlt')
  simpa [Array.getD,hlt'] using this
 cases r with
 |tmp t =>
  simp only[wc9,Na0,p9] at hx;cases hy:a[t]? with
  |none=>simp[hy] at hx
  |some y =>
   rw[hy] at hx;have hxy:y=x/\∀l,y≠.tup l:=by
    grind
   obtain⟨rfl,hnt⟩:=hxy;refine⟨rfl,?_⟩;show S5 ρ H F w y (tmps.getD t undef);have h:=hat hy
   revert h
   generalize tmps.getD t undef=u;intro h;cases h with
   |val h=>exact h
   |tup xs=>exact absurd rfl (hnt xs)
 |cell p t =>
  simp only[wc9,Na0,p9] at hx;cases hy:a[p]? with
  |none=>simp[hy] at hx
  |some y =>
  simp only[hy] at hx;cases hl:Ev.loadCells H y (szT P t) with
  |none=>simp[hl] at hx
  |some cs =>
  simp only[hl] at hx;have hu:P.underlying t≠none:=λh=>by simp[jd9,h] at hr
  obtain⟨ad,z',e,h1,h2⟩:=Ad4 hH (hat hy) hu hl hx;have hrun:(do loadVar t (<- asAddr (tmps.getD p undef)):Sem Value).run P w=.ok z' w:=by
   rw[e];simp[asAddr,h1]
  have hv:Lc5 P w tmps (.cell p t)=z':=by
   simp only[Lc5,hrun]
  rw[hv];exact⟨hrun,h2⟩
theorem yc6{fn:Func}{a:List b9}{tmps:Array Value}{P:Program}(hH:r4 W ρ H F w)(hA:da4 ρ H F w a tmps)(hr:fn.results.toList.all (jd9 P)=true){l:List b9}(hl:Ma4 (Na0 a H) (fn.results.toList.map (wc9 P))=some l) :
  ∃v,(results fn tmps).run P w=.ok v w/\v8 ρ H F w (eb8 l) v:=by
 obtain⟨hlen,hat⟩:=Qc1 hl;simp only[List.length_map,Array.length_toList] at hlen;have hone:∀(i:Nat) r,fn.results.toList[i]?=some r->∃x,l[i]?=some x/\(xe2 tmps r).run P w=.ok (Lc5 P w tmps r) w/\S5 ρ H F w x (Lc5 P w tmps r):=λi r hri=>by
  obtain⟨x,h1,h2⟩:=hat i (wc9 P r) (by simp only[Qbm,hri,Option.map_some])
  exact⟨x,h2,Td4 hH hA (Qcf.1 hr r (Qca hri)) h1⟩
 have hm:(fn.results.mapM (xe2 tmps)).run P w=.ok (fn.results.map (Lc5 P w tmps)) w:=by
  refine Tb1 _ _ w fn.results λr hrm=>?_
  obtain⟨i,hi⟩:=List.getElem?_of_mem (Array.mem_toList_iff.2 hrm)
  grind
 have hrun:(results fn tmps).run P w=.ok (if h:(fn.results.map (Lc5 P w tmps)).size=1 then (fn.results.map (Lc5 P w tmps))[0] else .tuple (fn.results.map (Lc5 P w tmps))) w:=by
  have e : results fn tmps = (do
    let vs <- fn.results.mapM (xe2 tmps)
    pure (if h:vs.size=1 then vs[0] else .tuple vs)):=by
   unfold results;congr 1
  simp_all
 refine⟨_,hrun,?_⟩;by_cases h1:fn.results.size=1
 ·have hl1:l.length=1:=hlen.trans h1;obtain⟨x,rfl⟩:∃x,l=[x]:=by
   match l,hl1 with
   |[x],_=>exact⟨x,rfl⟩
  have hlt:0<fn.results.toList.length:=by simp[h1]
  obtain⟨x',k1,_,k3⟩:=hone 0 _ (Qaa hlt)
  simp at k1
  subst k1;rw[dif_pos (by simpa using h1)]
  simp at k3 ⊢
  exact .val k3
 ·rw[dif_neg (by simpa using h1)]
  have e:eb8 l=.tup l:=by
   match l,hlen with
   |[],_=>rfl
   |[x],h=>exact absurd h.symm h1
   |_::_::_,_=>rfl
  rw[e];refine .tup l _ (by simp[hlen]) λi x x' hx hx'=>?_
  have hi:i<fn.results.toList.length:=by
   grind
  obtain⟨y,k1,_,k3⟩:=hone i _ (Qaa hi)
  grind
theorem be7{f:FuncId}{fn:Func}{pf:PFn}(hf:E.P.funcs[f]?=some fn)(hname:fn.name ≠ "runtime.NumGoroutine")(hc:Eb9 E.P fn=some pf)(hcalls:∀f,e8 E.P E.G f (E.call f))(hdraw:Ad2 E) :
  e8 E.P E.G f (m9 E pf):=by
 intro args blks r out he W ρ F w args' hH hlen hargs hG;unfold Eb9 at hc;cases hb:fn.body with
 |none=>simp[hb] at hc
 |some c =>
 simp only[hb] at hc
 split at hc
 case isFalse=>cases hc
 rename_i hres;injection hc with hc;subst hc;refine⟨⟨fn,hf,by simp[hb],hname⟩,?_⟩
 unfold m9 at he;rw[l6,E0,l6] at he;obtain⟨⟨x,s1⟩,h1,h2⟩:=DT.run_bind_some he
 simp only at h2 h1
 refine calls_of_wp hf hb ?_;have hI:Inv W ρ blks F w ⟨args++List.replicate (fn.ntmps-args.length) (.v (.tuple #[])),blks⟩ { tmps:=args'.toArray++Array.replicate (fn.ntmps-args'.toArray.size) undef,defers:=[] } w:=by
  refine⟨rfl,ρ,F,.refl,hH,by simp[hlen],λi y y' hy hy'=>?_⟩
  simp only at hy hy'
  rcases Qan i args.length with hi|hi
  ·grind
  ·rw[Qbf hi] at hy;rw[Array.getElem?_append_right (by simpa [<- hlen] using hi)] at hy'
   rw[Qbac] at hy;rw[Array.getElem?_replicate] at hy'
   split at hy
   ·split at hy'
    ·injection hy with hy;injection hy' with hy'
     subst hy hy';exact .ofv _
    ·cases hy'
   ·cases hy
 have hfin : ∀ (ac' : Act) (w' : World), Inv W ρ blks F w s1 ac' w' → (match x with | .exit _ => False | _ => True) → (match Ma4 (Na0 s1.a s1.H) (fn.results.toList.map (wc9 E.P)) with
    |some l=>wb6 blks.length s1.H (eb8 l)
    |none=>.fail).run=some (r,out)->ac'.defers=[]/\∃v,(results fn ac'.tmps).run E.P w'=.ok v w'/\∃r',Ending.returned v=.returned r'/\C4 W ρ blks F w r out r' w':=λac' w' hI' _ hr=>by
  obtain⟨hd,ρ1,F1,a1,a2,a3⟩:=hI';cases hm:Ma4 (Na0 s1.a s1.H) (fn.results.toList.map (wc9 E.P)) with
  |none=>rw[hm] at hr;cases hr
  |some l =>
  rw[hm] at hr;obtain⟨v,k1,k2⟩:=yc6 a2 a3 hres hm;refine⟨hd,v,k1,v,rfl,?_⟩;simp only[wb6] at hr;cases ht:wc4 blks.length s1.H (List.range blks.length) (eb8 l) with
  |mk z roots =>
  simp only[ht] at hr;cases hb2:sa0 blks.length s1.H 0 roots with
  |none=>simp[hb2] at hr
  |some H2 =>
  simp only[hb2] at hr;have hr':some (z,H2)=some (r,out):=hr;injection hr' with hr';injection hr' with e1 e2;subst e1 e2
  obtain⟨m1,_,m3⟩:=yc3 (TOk.start _) ht;exact⟨_,F1,Tb7 m1 hb2 a1,Fb6 m1 a2 hb2,Zc5 hb2 m3 k2⟩
 refine Ad3 hG hcalls hdraw ((xe1 E.P c).note _ _ _ _) _ x s1 h1 _ w _ hI λac' w' hI'=>?_
 cases x with
 |normal=>exact hfin ac' w' hI' trivial h2
 |ret=>exact hfin ac' w' hI' trivial h2
 |exit id=>cases h2
end
structure w6(D:Nat->Prop)(H10 H20 H1 H2:List c7):Prop where
 lenq:H1.length=H2.length
 same:∀id,¬ D id->H1[id]?=H2[id]?
 dead:∀(id:Nat) b,D id->H1[id]?=some b->b.dead=true
 at1:∀id,D id->H1[id]?=H10[id]?
 at2:∀id,D id->H2[id]?=H20[id]?
 bound:∀id,D id->id<H1.length
section
variable{D:Nat->Prop}{H10 H20 H1 H2:List c7}{E:Env}{a:List b9}
theorem w6.blkAt(h:w6 D H10 H20 H1 H2){id g:Nat}{b:c7}(hb:Ev.blkAt H1 id g=some b):¬ D id/\Ev.blkAt H2 id g=some b:=by
 obtain⟨h1,h2,h3⟩:=p5 hb;have hD:¬ D id:=λhD=>by rw[h.dead id b hD h1] at h2;cases h2
 refine⟨hD,?_⟩;have hs:=h.same id hD;unfold Ev.blkAt at hb ⊢;rw[p9] at hb ⊢;rw[<- hs];exact hb
theorem w6.setAt(h:w6 D H10 H20 H1 H2){id:Nat}(hD:¬ D id)(b:c7):w6 D H10 H20 (Ev.setAt H1 id b) (Ev.setAt H2 id b):=by
 rw[r6,r6];refine⟨by simp[h.lenq],λi hi=>?_,λi c hi hc=>?_,λi hi=>?_,λi hi=>?_,λi hi=>by simpa using h.bound i hi⟩
 ·by_cases e:id=i
  ·subst e
   rcases Qan id H1.length with hl|hl
   ·rw[Qcb hl,Qcb (h.lenq ▸ hl)]
   ·rw[Qal (by simpa using hl),Qal (by simpa using h.lenq ▸ hl)]
  ·rw[Qaf e,Qaf e];exact h.same i hi
 all_goals
  have e:id≠i:=λe=>hD (e ▸ hi)
 ·rw[Qaf e] at hc;exact h.dead i c hi hc
 ·rw[Qaf e];exact h.at1 i hi
 ·rw[Qaf e];exact h.at2 i hi
theorem w6.app(h:w6 D H10 H20 H1 H2)(l:List c7):w6 D H10 H20 (Ev.app H1 l) (Ev.app H2 l):=by
 rw[E0,E0];refine⟨by simp[h.lenq],λi hi=>?_,λi c hi hc=>?_,λi hi=>?_,λi hi=>?_,λi hi=>by have:=h.bound i hi;simp;omega⟩
 ·rcases Qan i H1.length with hl|hl
  ·rw[Qbg hl,Qbg (h.lenq ▸ hl)];exact h.same i hi
  ·rw[Qbf hl,Qbf (h.lenq ▸ hl),h.lenq]
 all_goals
  have hl:=h.bound i hi
 ·rw[Qbg hl] at hc;exact h.dead i c hi hc
 ·rw[Qbg hl];exact h.at1 i hi
 ·rw[Qbg (h.lenq ▸ hl)];exact h.at2 i hi
theorem w6.modAt(h:w6 D H10 H20 H1 H2){id:Nat}(hD:¬ D id)(f:c7->c7):w6 D H10 H20 (Ev.modAt H1 id f) (Ev.modAt H2 id f):=by
 have hs:=h.same id hD;unfold Ev.modAt;rw[p9,p9,<- hs];cases H1[id]? with
 |none=>exact h
 |some b=>exact h.setAt hD _
theorem w6.disown(h:w6 D H10 H20 H1 H2){id:Nat}(hD:¬ D id):w6 D H10 H20 (Ev.disown H1 id) (Ev.disown H2 id):=h.modAt hD _
theorem w6.freezeCell(h:w6 D H10 H20 H1 H2){x y:b9}{H1':List c7}(hf:Ev.freezeCell H1 x=some (y,H1')):∃H2',Ev.freezeCell H2 x=some (y,H2')/\w6 D H10 H20 H1' H2':=by
 unfold Ev.freezeCell at hf ⊢;cases x with
 |v u =>
  grind
 |tree es n get =>
  simp_all
 |fn f caps =>
  grind
 |sl id off n g =>
  simp only at hf ⊢
  cases hb:Ev.blkAt H1 id g with
  |none=>simp[hb] at hf
  |some b =>
   obtain⟨hD,hb2⟩:=h.blkAt hb;simp only[hb,hb2] at hf ⊢;injection hf with hf;injection hf with e1 e2;subst e1 e2
   exact⟨_,rfl,h.disown hD⟩
 |_=>cases hf
theorem w6.freezeCells:∀{H1 H2:List c7} {xs ys:List b9} {H1':List c7},w6 D H10 H20 H1 H2->Ev.freezeCells H1 xs=some (ys,H1')->∃H2',Ev.freezeCells H2 xs=some (ys,H2')/\w6 D H10 H20 H1' H2'
 |H1,H2,[],ys,H1',h,hf=>by
  simp only[Ev.freezeCells] at hf ⊢
  simp_all
 |H1,H2,x::xs,ys,H1',h,hf=>by
  simp only[Ev.freezeCells] at hf ⊢;cases h1:Ev.freezeCell H1 x with
  |none=>simp[h1] at hf
  |some yh =>
  obtain⟨y,Ha⟩:=yh;obtain⟨Hb,h2,h3⟩:=h.freezeCell h1;simp only[h1,h2] at hf ⊢;cases h4:Ev.freezeCells Ha xs with
  |none=>simp[h4] at hf
  |some lh =>
  obtain⟨l,Hc⟩:=lh;obtain⟨Hd,h5,h6⟩:=w6.freezeCells h3 h4
  simp_all
theorem w6.frzCap(h:w6 D H10 H20 H1 H2){x y:b9}{H1':List c7}(hf:Ev.frzCap H1 x=some (y,H1')):∃H2',Ev.frzCap H2 x=some (y,H2')/\w6 D H10 H20 H1' H2':=by
 unfold Ev.frzCap at hf ⊢;cases x with
 |v u =>
  grind
 |tree es n get =>
  simp_all
 |tptr cs =>
  simp_all
 |ptr id i c g =>
  simp only at hf ⊢
  cases hb:Ev.blkAt H1 id g with
  |none=>simp[hb] at hf
  |some b =>
   obtain⟨hD,hb2⟩:=h.blkAt hb;simp only[hb,hb2] at hf ⊢;cases hi:Nat.blt i (len b.elems) with
   |false=>simp[hi] at hf
   |true =>
    simp only[hi] at hf ⊢;injection hf with hf;injection hf with e1 e2;subst e1 e2
    exact⟨_,rfl,h.disown hD⟩
 |_=>cases hf
theorem w6.frzCaps:∀{H1 H2:List c7} {xs ys:List b9} {H1':List c7},w6 D H10 H20 H1 H2->Ev.frzCaps H1 xs=some (ys,H1')->∃H2',Ev.frzCaps H2 xs=some (ys,H2')/\w6 D H10 H20 H1' H2'
 |H1,H2,[],ys,H1',h,hf=>by
  simp only[Ev.frzCaps] at hf ⊢
  simp_all
 |H1,H2,x::xs,ys,H1',h,hf=>by
  simp only[Ev.frzCaps] at hf ⊢;cases h1:Ev.frzCap H1 x with
  |none=>simp[h1] at hf
  |some yh =>
  obtain⟨y,Ha⟩:=yh;obtain⟨Hb,h2,h3⟩:=h.frzCap h1;simp only[h1,h2] at hf ⊢;cases h4:Ev.frzCaps Ha xs with
  |none=>simp[h4] at hf
  |some lh =>
  obtain⟨l,Hc⟩:=lh;obtain⟨Hd,h5,h6⟩:=w6.frzCaps h3 h4
  simp_all
theorem w6.elemsOf(h:w6 D H10 H20 H1 H2){es:Nat}{x:b9}{l:List (List b9)}(hf:Ev.elemsOf es H1 x=some l):Ev.elemsOf es H2 x=some l:=by
 unfold Ev.elemsOf at hf ⊢;cases x with
 |sl id off n g =>
  simp only at hf ⊢
  cases hb:Ev.blkAt H1 id g with
  |none=>simp[hb] at hf
  |some b =>
   obtain⟨_,hb2⟩:=h.blkAt hb
   simp_all
 |v u =>
  grind
 |_=>exact hf
theorem w6.capArg(h:w6 D H10 H20 H1 H2){p:ka4}{x:b9}{r:b9×ka4}(hf:Ev.capArg H1 p x=some r):Ev.capArg H2 p x=some r:=by
 unfold Ev.capArg at hf ⊢;cases x with
 |ptr id i c g =>
  simp only at hf ⊢
  cases hb:Ev.blkAt H1 id g with
  |none=>simp[hb] at hf
  |some b =>
   obtain⟨_,hb2⟩:=h.blkAt hb
   simp_all
 |sl id off n g =>
  simp only at hf ⊢
  cases hb:Ev.blkAt H1 id g with
  |none=>simp[hb] at hf
  |some b =>
   obtain⟨_,hb2⟩:=h.blkAt hb
   simp_all
 |fn f caps=>cases caps<;>exact hf
 |_=>exact hf
theorem w6.capArgs(h:w6 D H10 H20 H1 H2):∀{xs:List b9} {p:ka4} {r:List b9×ka4},Ev.capArgs H1 p xs=some r->Ev.capArgs H2 p xs=some r
 |[],p,r,hf=>hf
 |x::xs,p,r,hf=>by
  simp only[Ev.capArgs] at hf ⊢;cases h1:Ev.capArg H1 p x with
  |none=>simp[h1] at hf
  |some yq =>
  rw[h.capArg h1];simp only[h1] at hf ⊢;cases h2:Ev.capArgs H1 yq.2 xs with
  |none=>simp[h2] at hf
  |some lq =>
  rw[w6.capArgs h h2]
  simp_all
theorem w6.prepArg(h:w6 D H10 H20 H1 H2){own:Bool}{p:ka4}{x:b9}{r:b9×ka4}(hf:Ev.prepArg H1 own p x=some r):Ev.prepArg H2 own p x=some r:=by
 unfold Ev.prepArg at hf ⊢;cases x with
 |v u=>exact hf
 |sl id off n g =>
  cases own with
  |false=>exact h.capArg hf
  |true =>
   simp only at hf ⊢
   cases hb:Ev.blkAt H1 id g with
   |none=>simp[hb] at hf
   |some b =>
    obtain⟨_,hb2⟩:=h.blkAt hb
    simp_all
 |agg cs =>
  simp only at hf ⊢
  cases h1:Ev.capArgs H1 p cs with
  |none=>simp[h1] at hf
  |some lq =>
  rw[h.capArgs h1]
  simp_all
 |fn f cs =>
  simp only at hf ⊢
  cases h1:Ev.capArgs H1 p cs with
  |none=>simp[h1] at hf
  |some lq =>
  rw[h.capArgs h1]
  simp_all
 |_=>exact h.capArg hf
theorem w6.prepArgs(h:w6 D H10 H20 H1 H2){own:Nat->Bool}:∀{xs:List b9} {p:ka4} {k:Nat} {r:List b9×ka4},Ev.prepArgs H1 own p k xs=some r->Ev.prepArgs H2 own p k xs=some r
 |[],p,k,r,hf=>hf
 |x::xs,p,k,r,hf=>by
  simp only[Ev.prepArgs] at hf ⊢;cases h1:Ev.prepArg H1 (own k) p x with
  |none=>simp[h1] at hf
  |some yq =>
  rw[h.prepArg h1];simp only[h1] at hf ⊢;cases h2:Ev.prepArgs H1 own yq.2 (k+1) xs with
  |none=>simp[h2] at hf
  |some lq =>
  rw[w6.prepArgs h h2]
  simp_all
theorem w6.blksAt(h:w6 D H10 H20 H1 H2):∀{roots:List Nat} {r:List c7},(∀id∈roots,¬ D id)->Ev.blksAt H1 roots=some r->Ev.blksAt H2 roots=some r
 |[],r,_,hf=>hf
 |id::roots,r,hr,hf=>by
  simp only[Ev.blksAt,p9] at hf ⊢;rw[<- h.same id (hr id (by simp))]
  cases hb:H1[id]? with
  |none=>simp[hb] at hf
  |some b =>
  simp only[hb] at hf ⊢;cases h2:Ev.blksAt H1 roots with
  |none=>simp[h2] at hf
  |some l =>
  rw[h.blksAt (λi hi=>hr i (by simp[hi])) h2]
  simp_all
theorem w6.putBack:∀{roots:List Nat} {H1 H2 out H1':List c7},w6 D H10 H20 H1 H2->(∀id∈roots,¬ D id)->Ev.putBack H1 roots out=some H1'->∃H2',Ev.putBack H2 roots out=some H2'/\w6 D H10 H20 H1' H2'
 |[],H1,H2,[],H1',h,_,hf=>by
  simp only[Ev.putBack] at hf ⊢
  simp_all
 |[],H1,H2,c::out,H1',h,_,hf=>by
  simp only[Ev.putBack] at hf ⊢;injection hf with hf;subst hf
  exact⟨_,rfl,h.app _⟩
 |id::roots,H1,H2,[],H1',h,_,hf=>by simp[Ev.putBack] at hf
 |id::roots,H1,H2,c::out,H1',h,hr,hf=>by
  simp only[Ev.putBack] at hf ⊢;exact w6.putBack (h.modAt (hr id (by simp)) _) (λi hi=>hr i (by simp[hi])) hf
theorem w6.settle(h:w6 D H10 H20 H1 H2)(held:Bool):∀{lent:List Nat},(∀id∈lent,¬ D id)->w6 D H10 H20 (Ev.settle lent held H1) (Ev.settle lent held H2)
 |[],_=>h
 |id::lent,hr=>by
  have ih:=w6.settle h held (lent:=lent) λi hi=>hr i (by simp[hi])
  rw[bb1,bb1];split
  ·exact ih.disown (hr id (by simp))
  ·exact ih
theorem w6.backId(h:w6 D H10 H20 H1 H2){roots:List Nat}(hr:∀id∈roots,¬ D id)(j g:Nat):Ev.backId H1 roots j g=Ev.backId H2 roots j g:=by
 unfold Ev.backId;rw[p9];cases hj:roots[j]? with
 |none=>simp only[l6,h.lenq]
 |some id=>simp only[p9,h.same id (hr id (Qca hj))]
theorem w6.backC(h:w6 D H10 H20 H1 H2){roots:List Nat}(hr:∀id∈roots,¬ D id):Ev.backC H1 roots=Ev.backC H2 roots:=by
 funext x;cases x with
 |ptr=>simp only[Ev.backC,h.backId hr]
 |sl=>simp only[Ev.backC,h.backId hr]
 |_=>rfl
theorem w6.backVal1(h:w6 D H10 H20 H1 H2){roots:List Nat}(hr:∀id∈roots,¬ D id):Ev.backVal1 H1 roots=Ev.backVal1 H2 roots:=by
 funext x;unfold Ev.backVal1;rw[h.backC hr]
theorem w6.backVal(h:w6 D H10 H20 H1 H2){roots:List Nat}(hr:∀id∈roots,¬ D id):Ev.backVal H1 roots=Ev.backVal H2 roots:=by
 funext x;unfold Ev.backVal;rw[h.backVal1 hr]
theorem w6.callA(h:w6 D H10 H20 H1 H2){f:FuncId}{args:List b9}{x:b9}{H1':List c7}(he:(Ev.callA E f args H1).run=some (x,H1')):∃H2',(Ev.callA E f args H2).run=some (x,H2')/\w6 D H10 H20 H1' H2':=by
 unfold Ev.callA at he ⊢;cases hpr:Ev.prepArgs H1 (E.own f) { roots:=[],lent:=[] } 0 args with
 |none=>rw[hpr] at he;cases he
 |some q =>
 obtain⟨xb4,p⟩:=q;obtain⟨hp,_,hl2,hPr⟩:=xb3 (H:=H1) (p:={ roots:=[],lent:=[] }) ⟨List.nodup_nil,λid h=>by simp at h,λid h=>by simp at h⟩ hpr
 have hroots:∀id∈p.roots,¬ D id:=λid hid hD=>by
  obtain⟨b,h1,h2⟩:=hp.live id hid;rw[h.dead id b hD h1] at h2;cases h2
 have hlent:∀id∈p.lent,¬ D id:=λid hid hD=>by
  obtain⟨b,h1,h2⟩:=hp.lent id hid;rw[h.dead id b hD h1] at h2;cases h2
 rw[h.prepArgs hpr];rw[hpr] at he
 simp only at he ⊢
 cases hbl:Ev.blksAt H1 p.roots with
 |none=>rw[hbl] at he;cases he
 |some blks =>
 rw[h.blksAt hroots hbl];cases hap:Ua1 p.lent p.roots with
 |false=>rw[hbl,hap] at he;cases he
 |true =>
 rw[hbl,hap] at he
 simp only at he ⊢
 obtain⟨⟨r,out⟩,hc,he⟩:=DT.run_bind_some he
 simp only at he
 cases hpb:Ev.putBack H1 p.roots out with
 |none=>rw[hpb] at he;cases he
 |some H1b =>
 obtain⟨H2b,k1,k2⟩:=w6.putBack h hroots hpb;rw[hpb] at he
 simp only at he
 have he':some (Ev.backVal H1 p.roots r,Ev.settle p.lent (pa9 r||out.any wb1) H1b)=some (x,H1'):=he
 injection he' with he';injection he' with e1 e2;subst e1 e2
 refine⟨Ev.settle p.lent (pa9 r||out.any wb1) H2b,?_,k2.settle _ hlent⟩
 rw[DT.run_bind,hc];simp only[Option.bind_some,k1];rw[h.backVal hroots];rfl
theorem w6.appendA(h:w6 D H10 H20 H1 H2){et es bytes:Nat}{s y x:b9}{H1':List c7}(he:(Ev.appendA et es bytes s y H1).run=some (x,H1')):∃H2',(Ev.appendA et es bytes s y H2).run=some (x,H2')/\w6 D H10 H20 H1' H2':=by
 unfold Ev.appendA at he ⊢;cases hel:Ev.elemsOf es H1 y with
 |none=>rw[hel] at he;cases he
 |some news =>
 rw[h.elemsOf hel];rw[hel] at he
 simp only at he ⊢
 have hnil : ∀ {H1' : List c7}, (DT.ite (Nat.beq (len news) 0) (.ret (b9.v (.slice none 0 0), H1))
    (.guard (Nat.ble (len news*bytes) room) (.ret (.sl (len H1) 0 (len news) 0,da2 H1 et es news)))).run=some (x,H1') ->
   ∃H2',(DT.ite (Nat.beq (len news) 0) (.ret (b9.v (.slice none 0 0),H2))
    (.guard (Nat.ble (len news*bytes) room) (.ret (.sl (len H2) 0 (len news) 0,da2 H2 et es news)))).run=some (x,H2')/\w6 D H10 H20 H1' H2':=λ{H1'} he=>by
  rcases DT.run_ite_some he with⟨h1,h2⟩|⟨h1,h2⟩
  ·rw[h1];simp only[DT.run_ret] at h2;injection h2 with h2;injection h2 with e1 e2;subst e1 e2
   exact⟨_,rfl,h⟩
  ·obtain⟨h3,h4⟩:=DT.run_guard_some h2;rw[h1];simp only[DT.run_ret] at h4;injection h4 with h4;injection h4 with e1 e2;subst e1 e2
   have hl:len H2=len H1:=by rw[l6,l6,h.lenq]
   refine⟨da2 H2 et es news,?_,h.app _⟩;rw[hl];simp only[DT.run_ite,DT.guard,h3,DT.run_ret,if_true,Bool.false_eq_true,if_false]
 cases s with
 |v u =>
  cases u with
  |slice ad n c =>
   cases ad with
   |some _=>cases he
   |none =>
    cases n with
    |succ _=>cases he
    |zero =>
     cases c with
     |succ _=>cases he
     |zero=>exact hnil he
  |_=>cases he
 |sl id off n g =>
  simp only at he ⊢
  cases hb:Ev.blkAt H1 id g with
  |none=>rw[hb] at he;cases he
  |some b =>
  obtain⟨hD,hb2⟩:=h.blkAt hb;rw[hb] at he;rw[hb2]
  simp only at he ⊢
  split at he
  ·obtain⟨h3,h4⟩:=DT.run_guard_some he;simp only[DT.run_ret] at h4;injection h4 with h4;injection h4 with e1 e2;subst e1 e2
   refine⟨_,?_,h.setAt hD _⟩;simp only[DT.run_ite,DT.guard,h3,DT.run_ret,if_true]
  ·cases he
 |_=>cases he
theorem w6.apreA(h:w6 D H10 H20 H1 H2){es:Nat}{d s x:b9}{H1':List c7}(he:(Ev.apreA es d s H1).run=some (x,H1')):∃H2',(Ev.apreA es d s H2).run=some (x,H2')/\w6 D H10 H20 H1' H2':=by
 unfold Ev.apreA at he ⊢;cases hel:Ev.elemsOf es H1 s with
 |none=>rw[hel] at he;cases he
 |some news =>
 rw[h.elemsOf hel];rw[hel] at he
 simp only at he ⊢
 split at he
 ·obtain⟨h0,he⟩:=DT.run_guard_some he;simp only[DT.run_ret] at he;injection he with he;injection he with e1 e2;subst e1 e2
  refine⟨H2,?_,h⟩;simp only[DT.guard,DT.run_ite,h0,DT.run_ret,if_true]
 ·rename_i id off n g;cases hb:Ev.blkAt H1 id g with
  |none=>rw[hb] at he;cases he
  |some b =>
  obtain⟨hD,hb2⟩:=h.blkAt hb;rw[hb] at he;rw[hb2]
  simp only at he ⊢
  split at he
  ·rename_i hc;obtain⟨h0,he⟩:=DT.run_guard_some he;simp only[DT.run_ret] at he;injection he with he;injection he with e1 e2;subst e1 e2
   refine⟨_,?_,h.setAt hD _⟩;simp only[hc,DT.guard,DT.run_ite,h0,DT.run_ret,if_true]
  ·cases he
 ·cases he
theorem w6.clrA(h:w6 D H10 H20 H1 H2){es:Nat}{z:List b9}{d x:b9}{H1':List c7}(he:Ev.clrA es z d H1=some (x,H1')):∃H2',Ev.clrA es z d H2=some (x,H2')/\w6 D H10 H20 H1' H2':=by
 unfold Ev.clrA at he ⊢
 split at he
 ·simp_all
 ·rename_i id off n g;cases hb:Ev.blkAt H1 id g with
  |none=>rw[hb] at he;cases he
  |some b =>
  obtain⟨hD,hb2⟩:=h.blkAt hb;rw[hb] at he;simp only[hb2]
  simp only at he ⊢
  split at he
  ·rename_i hc;injection he with he;injection he with e1 e2;subst e1 e2
   exact⟨_,by simp only[hc],h.setAt hD _⟩
  ·cases he
 ·cases he
theorem w6.aslA(h:w6 D H10 H20 H1 H2){n es:Nat}{d x:b9}{H1':List c7}(he:Ev.aslA n es d H1=some (x,H1')):∃H2',Ev.aslA n es d H2=some (x,H2')/\w6 D H10 H20 H1' H2':=by
 unfold Ev.aslA at he ⊢
 split at he
 ·rename_i id i c g;cases hb:Ev.blkAt H1 id g with
  |none=>simp only[hb] at he;cases he
  |some b =>
  obtain⟨hD,hb2⟩:=h.blkAt hb;simp only[hb] at he;simp only[hb2]
  split at he
  ·rename_i hc;injection he with he;injection he with e1 e2;subst e1 e2
   exact⟨_,rfl,h.disown hD⟩
  ·cases he
 ·cases he
def vc0:PO->Bool
 |.alloc _ | .box _ | .bslice .. | .mksl .. | .store .. | .append .. | .copy .. | .apre .. | .clr .. | .asl .. | .mkfz .. | .call .. | .calld .. | .invk .. | .bad=>true
 |_=>false
theorem w6.evalOp(h:w6 D H10 H20 H1 H2){o:PO}(ho:vc0 o=true){x:b9}{H1':List c7}(he:(Ev.evalOp E a H1 o).run=some (x,H1')):∃H2',(Ev.evalOp E a H2 o).run=some (x,H2')/\w6 D H10 H20 H1' H2':=by
 cases o with
 |alloc z =>
  simp only[Ev.evalOp,DT.run_ret] at he ⊢;injection he with he;injection he with e1 e2;subst e1 e2
  have hl:len H2=len H1:=by rw[l6,l6,h.lenq]
  exact⟨_,by rw[hl];rfl,h.app _⟩
 |box y =>
  simp only[Ev.evalOp] at he ⊢;cases hf:Ev.freezeCells H1 (A0 (c9 E a y)) with
  |none=>rw[hf] at he;cases he
  |some p =>
  obtain⟨cs,Ha⟩:=p;obtain⟨Hb,h1,h2⟩:=w6.freezeCells h hf;rw[hf] at he;rw[h1];simp only[DT.run_ret] at he ⊢;injection he with he;injection he with e1 e2;subst e1 e2
  have hl:len Hb=len Ha:=by rw[l6,l6,h2.lenq]
  exact⟨_,by rw[hl];rfl,h2.app _⟩
 |bslice et es n z parts =>
  simp only[Ev.evalOp] at he ⊢;cases hl:sb8 z (l9 (λp=>(p.1,p.2.1,c9 E a p.2.2)) parts) with
  |none=>rw[hl] at he;cases he
  |some cs =>
  rw[hl] at he
  simp only at he ⊢
  cases hf:Ev.freezeCells H1 cs with
  |none=>rw[hf] at he;cases he
  |some p =>
  obtain⟨cs,Ha⟩:=p;obtain⟨Hb,h1,h2⟩:=w6.freezeCells h hf;rw[hf] at he;rw[h1];simp only[DT.run_ret] at he ⊢;injection he with he;injection he with e1 e2;subst e1 e2
  have hl:len Hb=len Ha:=by rw[l6,l6,h2.lenq]
  exact⟨_,by rw[hl];rfl,h2.app _⟩
 |mksl et es bytes z l c =>
  simp only[Ev.evalOp] at he ⊢;cases h1:S4 (c9 E a l) with
  |none=>rw[h1] at he;cases he
  |some n =>
  cases h2:S4 (c9 E a c) with
  |none=>rw[h1,h2] at he;cases he
  |some m =>
  rw[h1,h2] at he
  simp only at he ⊢
  obtain⟨h3,h4⟩:=DT.run_guard_some he;simp only[DT.run_ret] at h4;injection h4 with h4;injection h4 with e1 e2;subst e1 e2
  refine⟨_,?_,h.app _⟩;simp only[DT.guard,DT.run_ite,h3,if_true,DT.run_ret];have hl:len H2=len H1:=by rw[l6,l6,h.lenq]
  rw[hl];rfl
 |store n p y =>
  simp only[Ev.evalOp] at he ⊢
  revert he
  cases c9 E a p with
  |ptr id i c g =>
   intro he
   simp only at he ⊢
   cases hf:Ev.freezeCells H1 (A0 (c9 E a y)) with
   |none=>rw[hf] at he;cases he
   |some q =>
   obtain⟨cs,Ha⟩:=q;obtain⟨Hb,h1,h2⟩:=w6.freezeCells h hf;rw[hf] at he;rw[h1]
   simp only at he ⊢
   cases hb:Ev.blkAt Ha id g with
   |none=>rw[hb] at he;cases he
   |some b =>
   obtain⟨hD,hb2⟩:=h2.blkAt hb;rw[hb] at he;rw[hb2]
   simp only at he ⊢
   obtain⟨hg,he⟩:=DT.run_guard_some he;rw[hg];simp only[DT.run_ret] at he ⊢;injection he with he;injection he with e1 e2;subst e1 e2
   exact⟨_,rfl,h2.setAt hD _⟩
  |_=>intro he;cases he
 |append et es bytes s y=>exact h.appendA he
 |copy es d s=>cases he
 |apre es s y=>exact h.apreA he
 |clr es z y =>
  obtain⟨H2',h1,h2⟩:=h.clrA (jb7 he);refine⟨H2',?_,h2⟩;show (Rd6 (Ev.clrA es z (c9 E a y) H2)).run=_;rw[h1];rfl
 |asl n es y =>
  obtain⟨H2',h1,h2⟩:=h.aslA (jb7 he);refine⟨H2',?_,h2⟩;show (Rd6 (Ev.aslA n es (c9 E a y) H2)).run=_;rw[h1];rfl
 |mkfz f caps =>
  simp only[Ev.evalOp] at he ⊢;cases hlt:Nat.ble bfB f with
  |true=>rw[hlt] at he;cases he
  |false =>
  rw[hlt] at he
  simp only at he ⊢
  cases hb:ia0 Pc8 (l9 (c9 E a) caps) with
  |false=>rw[hb] at he;cases he
  |true =>
  rw[hb] at he
  simp only at he ⊢
  cases hz:Ev.frzCaps H1 (l9 (c9 E a) caps) with
  |none=>rw[hz] at he;cases he
  |some q =>
  obtain⟨l,Ha⟩:=q;obtain⟨Hb,k1,k2⟩:=w6.frzCaps h hz;rw[hz] at he;rw[k1];simp only[DT.run_ret] at he ⊢;injection he with he;injection he with e1 e2;subst e1 e2
  exact⟨_,rfl,k2⟩
 |call f args=>exact h.callA he
 |calld y args =>
  simp only[Ev.evalOp] at he ⊢
  revert he
  cases c9 E a y with
  |fn f caps =>
   intro he
   simp only at he ⊢
   cases hb:Nat.ble bfB f with
   |false=>rw[hb] at he;exact h.callA he
   |true =>
    rw[hb] at he;cases caps with
    |nil=>cases he
    |cons c cs=>exact h.callA he
  |_=>intro he;cases he
 |invk tbl y args =>
  simp only[Ev.evalOp] at he ⊢
  revert he
  cases wc2 tbl (c9 E a y) with
  |none=>intro he;cases he
  |some q=>exact λhe=>h.callA he
 |bad=>cases he
 |_=>cases ho
end
section
variable{E:Env}{a a':List b9}{H H':List c7}
def Agr(a a':List b9)(l:List Nat):Prop:=∀t∈l,a[t]?=a'[t]?
theorem Agr.left{l r:List Nat}(h:Agr a a' (l++r)):Agr a a' l:=λt ht=>h t (Qbn _ ht)
theorem Agr.right{l r:List Nat}(h:Agr a a' (l++r)):Agr a a' r:=λt ht=>h t (Qcg _ ht)
theorem Agr.t{t:Nat}(h:a[t]?=a'[t]?):c9 E a (.t t)=c9 E a' (.t t):=by rw[Ra2,Ra2,h]
theorem Agr.arg{x:Arg}(h:Agr a a' (ka5 x)):c9 E a x=c9 E a' x:=by
 cases x with
 |t n=>exact Agr.t (h n (by simp[ka5]))
 |c x=>rfl
 |g n=>rfl
theorem Agr.opt{x:Option Arg}(h:Agr a a' (yd5 x)):x.map (c9 E a)=x.map (c9 E a'):=by
 cases x with
 |none=>rfl
 |some x=>exact congrArg some (Agr.arg h)
theorem Agr.args{xs:List Arg}(h:Agr a a' (xs.flatMap ka5)):l9 (c9 E a) xs=l9 (c9 E a') xs:=by
 rw[k9,k9];refine Qci λx hx=>Agr.arg λt ht=>h t (List.mem_flatMap.2 ⟨x,hx,ht⟩)
theorem Agr.parts{ps:List (Nat×Nat×Arg)}(h:Agr a a' (ps.flatMap λp=>ka5 p.2.2)):l9 (λp:Nat×Nat×Arg=>(p.1,p.2.1,c9 E a p.2.2)) ps=l9 (λp=>(p.1,p.2.1,c9 E a' p.2.2)) ps:=by
 rw[k9,k9];refine Qci λx hx=>?_
 rw[Agr.arg (E:=E) (a:=a) (a':=a') λt ht=>h t (List.mem_flatMap.2 ⟨x,hx,ht⟩)]
theorem yc7{α β:Type}{f g:α->Option β}:∀{l:List α},(∀x∈l,f x=g x)->Ma4 f l=Ma4 g l
 |[],_=>rfl
 |x::l,h=>by
  have ih:=yc7 (f:=f) (g:=g) (l:=l) λy hy=>h y (by simp[hy])
  have e1:∀(u:α->Option β),Ma4 u (x::l)=Option.rec (motive:=λ_=>Option (List β)) none (λy=>Option.rec (motive:=λ_=>Option (List β)) none (λr=>some (y::r)) (Ma4 u l)) (u x):=λ_=>rfl
  simp_all
theorem Agr.gen{o:Oper}{ts:List Nat}(h:Agr a a' ts):Lc3 E a o ts=Lc3 E a' o ts:=by
 unfold Lc3;rw[yc7 λt ht=>by rw[Agr.t (E:=E) (h t ht)]]
theorem Tb8(o:PO)(h:Agr a a' (ab7 o)):evalOp E a H o=evalOp E a' H o:=by
 cases o with
 |alloc z=>rfl
 |bad=>rfl
 |pick c x y=>simp only[evalOp,Agr.arg (E:=E) h.left.left,Agr.arg (E:=E) h.left.right,Agr.arg (E:=E) h.right]
 |build z ps=>simp only[evalOp,Agr.parts (E:=E) h]
 |bslice et es n z ps=>simp only[evalOp,Agr.parts (E:=E) h]
 |tslice es n z ps=>simp only[evalOp,Agr.parts (E:=E) h]
 |tmk es b z x y=>simp only[evalOp,Agr.arg (E:=E) h.left,Agr.arg (E:=E) h.right]
 |slice es x lo hi=>simp only[evalOp,Agr.arg (E:=E) h.left.left,Agr.opt (E:=E) h.left.right,Agr.opt (E:=E) h.right]
 |mkfn f xs=>simp only[evalOp,Agr.args (E:=E) h]
 |mkfz f xs=>simp only[evalOp,Agr.args (E:=E) h]
 |call f xs=>simp only[evalOp,Agr.args (E:=E) h]
 |calld x xs=>simp only[evalOp,Agr.args (E:=E) h.right,Agr.arg (E:=E) h.left]
 |invk tbl x xs=>simp only[evalOp,Agr.args (E:=E) h.right,Agr.arg (E:=E) h.left]
 |gen o ts =>
  have e:Lc3 E a o ts=Lc3 E a' o ts:=Agr.gen h;simp only[evalOp,e]
 |eqn k neg x y o ts=>simp only[evalOp,Ue0,Agr.gen (E:=E) h.right,Agr.arg (E:=E) h.left.left,Agr.arg (E:=E) h.left.right]
 |mv x=>simp only[evalOp,Agr.arg (E:=E) (x:=x) h]
 |nilck x=>simp only[evalOp,Agr.arg (E:=E) (x:=x) h]
 |box x=>simp only[evalOp,Agr.arg (E:=E) (x:=x) h]
 |load ks n agg x=>simp only[evalOp,Agr.arg (E:=E) (x:=x) h]
 |fld off x=>simp only[evalOp,Agr.arg (E:=E) (x:=x) h]
 |ext x i=>simp only[evalOp,Agr.arg (E:=E) (x:=x) h]
 |field off n agg x=>simp only[evalOp,Agr.arg (E:=E) (x:=x) h]
 |not x=>simp only[evalOp,Agr.arg (E:=E) (x:=x) h]
 |neg x=>simp only[evalOp,Agr.arg (E:=E) (x:=x) h]
 |len x=>simp only[evalOp,Agr.arg (E:=E) (x:=x) h]
 |slen x=>simp only[evalOp,Agr.arg (E:=E) (x:=x) h]
 |clr es z x=>simp only[evalOp,Agr.arg (E:=E) (x:=x) h]
 |asl n es x=>simp only[evalOp,Agr.arg (E:=E) (x:=x) h]
 |_=>simp only[evalOp,Agr.arg (E:=E) h.left,Agr.arg (E:=E) h.right]
def md5(b b':c7):Prop:=b'.dead=b.dead/\b'.g=b.g/\b'.es=b.es/\b'.elems=b.elems/\b'.et=b.et
def F4(H H':List c7)(id:Nat):Prop:=∀b,H[id]?=some b->∃b',H'[id]?=some b'/\md5 b b'
theorem md5.refl(b:c7):md5 b b:=⟨rfl,rfl,rfl,rfl,rfl⟩
theorem md5.trans{b c d:c7}(h:md5 b c)(k:md5 c d):md5 b d:=⟨k.1.trans h.1,k.2.1.trans h.2.1,k.2.2.1.trans h.2.2.1,k.2.2.2.1.trans h.2.2.2.1,k.2.2.2.2.trans h.2.2.2.2⟩
theorem F4.refl(H:List c7)(id:Nat):F4 H H id:=λb hb=>⟨b,hb,.refl b⟩
theorem F4.trans{H1 H2 H3:List c7}{id:Nat}(h:F4 H1 H2 id)(k:F4 H2 H3 id):F4 H1 H3 id:=λb hb=>by
 obtain⟨c,hc,h1⟩:=h b hb;obtain⟨d,hd,h2⟩:=k c hc;exact⟨d,hd,h1.trans h2⟩
theorem F4.blk{id g:Nat}{b:c7}(h:F4 H H' id)(hb:blkAt H id g=some b):∃b',blkAt H' id g=some b'/\md5 b b':=by
 obtain⟨h1,h2,h3⟩:=p5 hb;obtain⟨b',k1,k2⟩:=h b h1;refine⟨b',?_,k2⟩;unfold blkAt;rw[p9,k1];have hd:b'.dead=false:=k2.1.trans h2;have hg:Nat.beq b'.g g=true:=by rw[k2.2.1,h3];exact Nat.beq_refl g
 simp only[hd,hg]
theorem md6{p:b9}{n:Nat}{q:Bool×List b9}(h:∀id∈da3 p,F4 H H' id)(hl:ob4 H p n=some q):ob4 H' p n=some q:=by
 unfold ob4 at hl ⊢;cases p with
 |ptr id i c g =>
  simp only at hl ⊢
  cases hb:blkAt H id g with
  |none=>simp[hb] at hl
  |some b =>
  obtain⟨b',h1,h2⟩:=(h id (by simp[da3])).blk hb
  simp only[hb] at hl;rw[h1];simp only[h2.2.2.2.1];exact hl
 |_=>exact hl
theorem Va0{x:Option b9}{H1:List c7}{r:b9}(h:(opt x H).run=some (r,H1))(H':List c7):H1=H/\(opt x H').run=some (r,H'):=by
 obtain⟨y,h1,h2⟩:=Aa6 h;injection h2 with e1 e2;subst e1 e2 h1;exact⟨rfl,rfl⟩
theorem ia1{x r:b9}{H1:List c7}(h:(DT.ret (x,H)).run=some (r,H1))(H':List c7):H1=H/\(DT.ret (x,H')).run=some (r,H'):=by
 simp_all
theorem Fa9{c:Bool}{x r:b9}{H1:List c7}(h:(DT.guard c (DT.ret (x,H))).run=some (r,H1))(H':List c7):H1=H/\(DT.guard c (DT.ret (x,H'))).run=some (r,H'):=by
 obtain⟨h1,h2⟩:=DT.run_guard_some h;obtain⟨e,h3⟩:=ia1 h2 H';exact⟨e,by rw[DT.guard,DT.run_ite,h1];exact h3⟩
theorem Fb9{α:Type}{d:DT α}{f:α->b9}{r:b9}{H1:List c7}(h:(d.bind λy=>DT.ret (f y,H)).run=some (r,H1))(H':List c7):H1=H/\(d.bind λy=>DT.ret (f y,H')).run=some (r,H'):=by
 obtain⟨y,h1,h2⟩:=DT.run_bind_some h;obtain⟨e,h3⟩:=ia1 h2 H';exact⟨e,by rw[DT.run_bind,h1];exact h3⟩
theorem Tb9{o:PO}(ho:uc6 o=true){x:b9}{H1:List c7}(he:(evalOp E a H o).run=some (x,H1)):H1=H/\∀H',(∀id∈wa8 E a o,F4 H H' id)->(evalOp E a H' o).run=some (x,H'):=by
 suffices hs:∀H',(∀id∈wa8 E a o,F4 H H' id)->H1=H/\(evalOp E a H' o).run=some (x,H') by
  exact⟨(hs H λid _=>.refl H id).1,λH' h=>(hs H' h).2⟩
 intro H' hu;cases o with
 |mv y=>exact ia1 he H'
 |nilck y =>
  simp only[evalOp] at he ⊢
  revert he
  cases c9 E a y<;>intro he<;>first | exact ia1 he H' | cases he
 |pick c y z =>
  simp only[evalOp] at he ⊢
  revert he
  cases c9 E a c with
  |v u =>
   cases u with
   |bool b =>
    intro he;simp only[DT.run_ite,DT.run_ret] at he ⊢
    grind
   |_=>intro he;cases he
  |_=>intro he;cases he
 |build z ps =>
  simp only[evalOp] at he ⊢
  split at he
  ·exact ia1 he H'
  ·cases he
 |tslice es n z ps =>
  simp only[evalOp] at he ⊢
  split at he
  ·split at he
   ·exact ia1 he H'
   ·cases he
  ·cases he
 |tmk es bb z y c =>
  simp only[evalOp] at he ⊢
  split at he
  ·exact Fa9 he H'
  ·cases he
 |load ks n agg y =>
  simp only[evalOp] at he ⊢;cases hl:ob4 H (c9 E a y) n with
  |none=>rw[hl] at he;cases he
  |some q =>
  rw[md6 hu hl];rw[hl] at he;obtain⟨hg,he⟩:=DT.run_guard_some he;simp only[hg];exact Va0 he H'
 |fld off y =>
  simp only[evalOp] at he ⊢
  revert he
  cases c9 E a y<;>intro he<;>first | exact ia1 he H' | cases he
 |idxA n es y i =>
  simp only[evalOp] at he ⊢
  revert he
  cases S4 (c9 E a i) with
  |none=>intro he;cases he
  |some m=>cases c9 E a y<;>intro he<;>first | exact Fa9 he H' | cases he
 |idxS es y i =>
  have hu':∀id∈da3 (c9 E a y),F4 H H' id:=hu;simp only[evalOp] at he ⊢
  revert he hu'
  cases S4 (c9 E a i) with
  |none=>intro he _;cases he
  |some m =>
   cases c9 E a y with
   |sl id off n g =>
    intro he hu'
    simp only at he ⊢
    cases hb:blkAt H id g with
    |none=>rw[hb] at he;cases he
    |some b =>
    obtain⟨b',h1,h2⟩:=(hu' id (by simp[da3])).blk hb
    rw[hb] at he;rw[h1];simp only[h2.2.2.1] at he ⊢;cases hbe:Nat.beq b.es es with
    |false=>rw[hbe] at he;cases he
    |true =>
     rw[hbe] at he;exact Fa9 he H'
   |tree es' n get =>
    intro he _
    simp only at he ⊢
    cases hbe:Nat.beq es' es with
    |false=>rw[hbe] at he;cases he
    |true =>
     rw[hbe] at he;exact Fa9 he H'
   |_=>intro he _;cases he
 |slice es y lo hi =>
  have hu':∀id∈da3 (c9 E a y),F4 H H' id:=hu;simp only[evalOp] at he ⊢
  revert he hu'
  cases c9 E a y with
  |sl id off n g =>
   intro he hu'
   simp only at he ⊢
   cases hb:blkAt H id g with
   |none=>rw[hb] at he;cases he
   |some b =>
   obtain⟨b',h1,h2⟩:=(hu' id (by simp[da3])).blk hb
   rw[hb] at he;rw[h1];simp only[h2.2.2.1] at he ⊢;cases hbe:Nat.beq b.es es with
   |false=>rw[hbe] at he;cases he
   |true =>
    rw[hbe] at he;exact Fb9 (f:=λy:Nat×Nat=>.sl id (off+y.1) (y.2-y.1) g) he H'
  |tree es' n get =>
   intro he _
   simp only at he ⊢
   cases hbe:Nat.beq es' es with
   |false=>rw[hbe] at he;cases he
   |true =>
    rw[hbe] at he;exact Fb9 (f:=λy:Nat×Nat=>.tree es' (y.2-y.1) λi=>get (y.1+i)) he H'
  |v u =>
   intro he _;cases u with
   |slice ad n c =>
    cases ad with
    |some _=>cases he
    |none=>cases n with
     |succ _=>cases he
     |zero=>cases c with
      |succ _=>cases he
      |zero=>exact Fb9 (f:=λ_=>.v (.slice none 0 0)) he H'
   |_=>cases he
  |_=>intro he _;cases he
 |mkfn f xs =>
  simp only[evalOp] at he ⊢;cases hb:Nat.ble bfB f with
  |false =>
   simp only[hb] at he ⊢
   split at he
   ·exact ia1 he H'
   ·cases he
  |true =>
   simp only[hb] at he ⊢
   split at he
   ·exact ia1 he H'
   ·cases he
 |ext y i =>
  simp only[evalOp] at he ⊢
  revert he
  cases c9 E a y<;>intro he<;>first | exact Va0 he H' | cases he
 |field off n agg y =>
  simp only[evalOp] at he ⊢
  revert he
  cases c9 E a y with
  |agg cs =>
   intro he
   simp only at he ⊢
   split at he
   ·exact Va0 he H'
   ·cases he
  |_=>intro he;cases he
 |index ks n es agg y i =>
  simp only[evalOp] at he ⊢
  revert he
  cases S4 (c9 E a i) with
  |none=>cases c9 E a y<;>intro he<;>cases he
  |some m =>
   cases c9 E a y with
   |agg cs =>
    intro he
    simp only at he ⊢
    obtain⟨h1,h2⟩:=DT.run_guard_some he;obtain⟨e,h3⟩:=Va0 h2 H';exact⟨e,by rw[DT.guard,DT.run_ite,h1];exact h3⟩
   |_=>intro he;cases he
 |bin op y z=>exact Fb9 (f:=λr=>r) he H'
 |eqn k neg y z o ts =>
  obtain⟨h1,h2⟩:=DT.run_guard_some he;obtain⟨e,h3⟩:=Va0 h2 H';exact⟨e,by rw[evalOp,DT.guard,DT.run_ite,h1];exact h3⟩
 |eqc neg fl y z =>
  simp only[evalOp] at he ⊢
  revert he
  cases c9 E a y with
  |agg cs =>
   cases c9 E a z with
   |agg ds=>intro he;exact Fa9 he H'
   |_=>intro he;cases he
  |_=>intro he;cases he
 |not y =>
  simp only[evalOp] at he ⊢
  revert he
  cases c9 E a y with
  |v u=>cases u<;>intro he<;>first | exact ia1 he H' | cases he
  |_=>intro he;cases he
 |neg y =>
  simp only[evalOp] at he ⊢
  revert he
  cases c9 E a y with
  |v u=>cases u<;>intro he<;>first | exact ia1 he H' | cases he
  |_=>intro he;cases he
 |gen o ts=>exact Va0 he H'
 |len y=>exact Va0 he H'
 |sidx y z =>
  simp only[evalOp] at he ⊢
  revert he
  cases c9 E a y with
  |v u=>cases u with
   |string q =>
    intro he;cases hm:S4 (c9 E a z) with
    |none=>simp only[hm] at he;cases he
    |some m =>
     simp only[hm] at he ⊢;exact Fa9 he H'
   |_=>intro he;cases he
  |_=>intro he;cases he
 |slen y =>
  simp only[evalOp] at he ⊢
  revert he
  cases c9 E a y with
  |v u=>cases u<;>intro he<;>first | exact ia1 he H' | cases he
  |_=>intro he;cases he
 |_=>cases ho
end
section
variable{E:Env}{a:List b9}{H H1:List c7}
theorem F4.disown(H:List c7)(l id:Nat):F4 H (disown H l) id:=λb hb=>by
 unfold Ev.disown modAt;rw[p9];by_cases e:l=id
 ·subst e;simp only[hb,r6];rw[Qcb (Qab.1 hb).1];exact⟨_,rfl,rfl,rfl,rfl,rfl,rfl⟩
 ·cases H[l]? with
  |none=>exact⟨b,hb,.refl b⟩
  |some c =>
   simp only[r6];rw[Qaf e];exact⟨b,hb,.refl b⟩
theorem F4.setAt(H:List c7){l id:Nat}(c:c7)(hne:l≠id):F4 H (Ev.setAt H l c) id:=λb hb=>by
 rw[r6,Qaf hne];exact⟨b,hb,.refl b⟩
theorem F4.modAt(H:List c7){l id:Nat}(f:c7->c7)(hne:l≠id):F4 H (Ev.modAt H l f) id:=by
 unfold Ev.modAt;cases nth H l with
 |none=>exact .refl _ _
 |some c=>exact .setAt H _ hne
theorem F4.app(H l:List c7)(id:Nat):F4 H (Ev.app H l) id:=λb hb=>by
 rw[E0,Qbg (Qab.1 hb).1];exact⟨b,hb,.refl b⟩
theorem pc5{x y:b9}(h:freezeCell H x=some (y,H1))(id:Nat):F4 H H1 id:=by
 unfold freezeCell at h;cases x with
 |v u =>
  simp only at h
  split at h
  ·injection h with h;injection h with e1 e2;subst e2;exact .refl _ _
  ·cases h
 |tree es n get=>simp only at h;injection h with h;injection h with e1 e2;subst e2;exact .refl _ _
 |fn f caps =>
  simp only at h
  split at h
  ·injection h with h;injection h with e1 e2;subst e2;exact .refl _ _
  ·cases h
 |sl l off n g =>
  simp only at h
  split at h
  ·injection h with h;injection h with e1 e2;subst e2;exact .disown _ _ _
  ·cases h
 |_=>cases h
theorem qa2:∀{xs ys:List b9} {H H1:List c7},freezeCells H xs=some (ys,H1)->∀id,F4 H H1 id
 |[],ys,H,H1,h,id=>by
  simp only[freezeCells] at h;injection h with h;injection h with e1 e2;subst e2;exact .refl _ _
 |x::xs,ys,H,H1,h,id=>by
  simp only[freezeCells] at h;cases h1:freezeCell H x with
  |none=>simp[h1] at h
  |some p =>
  obtain⟨y,Ha⟩:=p;simp only[h1] at h;cases h2:freezeCells Ha xs with
  |none=>simp[h2] at h
  |some q =>
  obtain⟨l,Hb⟩:=q;simp only[h2] at h;injection h with h;injection h with e1 e2;subst e2
  exact (pc5 h1 id).trans (qa2 h2 id)
theorem md7{x y:b9}(h:frzCap H x=some (y,H1))(id:Nat):F4 H H1 id:=by
 unfold frzCap at h
 split at h
 ·split at h
  ·injection h with h;injection h with e1 e2;subst e2;exact .refl _ _
  ·cases h
 ·injection h with h;injection h with e1 e2;subst e2;exact .refl _ _
 ·injection h with h;injection h with e1 e2;subst e2;exact .refl _ _
 ·split at h
  ·split at h
   ·injection h with h;injection h with e1 e2;subst e2;exact .disown _ _ _
   ·cases h
  ·cases h
 ·cases h
theorem Ub0:∀{xs ys:List b9} {H H1:List c7},frzCaps H xs=some (ys,H1)->∀id,F4 H H1 id
 |[],ys,H,H1,h,id=>by
  simp only[frzCaps] at h;injection h with h;injection h with e1 e2;subst e2;exact .refl _ _
 |x::xs,ys,H,H1,h,id=>by
  simp only[frzCaps] at h;cases h1:frzCap H x with
  |none=>simp[h1] at h
  |some p =>
  obtain⟨y,Ha⟩:=p;simp only[h1] at h;cases h2:frzCaps Ha xs with
  |none=>simp[h2] at h
  |some q =>
  obtain⟨l,Hb⟩:=q;simp only[h2] at h;injection h with h;injection h with e1 e2;subst e2
  exact (md7 h1 id).trans (Ub0 h2 id)
theorem Sc0{roots r:List Nat}{id j:Nat}(h:ma6 roots id=(j,r)){y:Nat}(hy:y∈r):y∈roots\/y=id:=by
 unfold ma6 at h
 split at h
 ·simp_all
 ·rw[E0] at h
  grind
theorem Ub1{p q:ka4}{x z:b9}(h:capArg H p x=some (z,q)){y:Nat}(hy:y∈q.roots):y∈p.roots\/y∈Aa4 [x]:=by
 have hsame:∀{z':b9},some (z',p)=some (z,q)->y∈p.roots\/y∈Aa4 [x]:=λ{z'} e=>by
  injection e with e;injection e with e1 e2;subst e2;exact .inl hy
 unfold capArg at h;cases x with
 |v u=>exact hsame h
 |tree es n get=>exact hsame h
 |tptr cs=>exact hsame h
 |fn f caps=>cases caps with
  |nil=>exact hsame h
  |cons=>cases h
 |ptr id i c g =>
  simp only at h
  split at h
  ·cases hi:ma6 p.roots id with
   |mk j r =>
    simp only[hi] at h;injection h with h;injection h with e1 e2;subst e2
    rcases Sc0 hi hy with h|h
    ·exact .inl h
    ·subst h;exact .inr (by show y∈y::_;exact Qck)
  ·cases h
 |sl id off n g =>
  grind
 |_=>cases h
theorem xb7 (x : b9) (l : List b9) : Aa4 (x :: l) = match x with
  |.ptr id _ _ _=>id::Aa4 l
  |_=>Aa4 l:=rfl
theorem pc6{x:b9}{l:List b9}{y:Nat}:y∈Aa4 (x::l)↔y∈Aa4 [x]\/y∈Aa4 l:=by
 rw[xb7,xb7]
 have:Aa4 []=[]:=rfl
 cases x<;>simp[this]
theorem fb2:∀{xs zs:List b9} {p q:ka4},capArgs H p xs=some (zs,q)->∀{y:Nat},y∈q.roots->y∈p.roots\/y∈Aa4 xs
 |[],zs,p,q,h,y,hy=>by
  simp only[capArgs] at h
  simp_all
 |x::xs,zs,p,q,h,y,hy=>by
  simp only[capArgs] at h;cases h1:capArg H p x with
  |none=>simp[h1] at h
  |some r =>
  obtain⟨z,p1⟩:=r;simp only[h1] at h;cases h2:capArgs H p1 xs with
  |none=>simp[h2] at h
  |some r2 =>
  obtain⟨l,p2⟩:=r2;simp only[h2] at h;injection h with h;injection h with e1 e2;subst e2
  rw[pc6]
  rcases fb2 h2 hy with h|h
  ·rcases Ub1 h1 h with h|h
   ·exact .inl h
   ·exact .inr (.inl h)
  ·exact .inr (.inr h)
theorem xb8{own:Nat->Bool}:∀{xs zs:List b9} {p q:ka4} {k:Nat},prepArgs H own p k xs=some (zs,q)->∀{y:Nat},y∈q.roots->y∈p.roots\/y∈T9 own k xs
 |[],zs,p,q,k,h,y,hy=>by
  simp only[prepArgs] at h
  simp_all
 |x::xs,zs,p,q,k,h,y,hy=>by
  simp only[prepArgs] at h;cases h1:prepArg H (own k) p x with
  |none=>simp[h1] at h
  |some r =>
  obtain⟨z,p1⟩:=r;simp only[h1] at h;cases h2:prepArgs H own p1 (k+1) xs with
  |none=>simp[h2] at h
  |some r2 =>
  obtain⟨l,p2⟩:=r2;simp only[h2] at h;injection h with h;injection h with e1 e2;subst e2
  have hrest:∀{y},y∈T9 own (k+1) xs->y∈T9 own k (x::xs):=λ{y} hy=>by
   simp only[T9];cases x with
   |ptr=>exact Qcn _ hy
   |sl=>cases own k<;>first | exact Qcn _ hy | exact hy
   |agg=>simp only[E0];exact Qcg _ hy
   |fn=>simp only[E0];exact Qcg _ hy
   |_=>exact hy
  rcases xb8 h2 hy with h|h
  ·have hcap:∀{z':b9} {q':ka4},capArg H p x=some (z',q')->q'=p1->y∈p.roots\/y∈Aa4 [x]:=λe e2=>Ub1 e (e2 ▸ h)
   unfold prepArg at h1;cases x with
   |v u =>
    simp_all
   |sl id off n g =>
    cases ho:own k with
    |false =>
     rw[ho] at h1
     rcases hcap h1 rfl with h|h
     ·exact .inl h
     ·cases h
    |true =>
     rw[ho] at h1
     simp only at h1
     split at h1
     ·split at h1
      ·cases hi:ma6 p.roots id with
       |mk j r =>
        simp only[hi] at h1;injection h1 with h1;injection h1 with e1 e2;subst e2
        rcases Sc0 hi h with h|h
        ·exact .inl h
        ·subst h;refine .inr ?_;simp only[T9,ho];exact Qck
      ·cases h1
     ·cases h1
   |agg cs =>
    simp only at h1
    cases h3:capArgs H p cs with
    |none=>simp[h3] at h1
    |some r3 =>
    simp only[h3] at h1;injection h1 with h1;injection h1 with e1 e2;subst e2
    rcases fb2 h3 h with h|h
    ·exact .inl h
    ·refine .inr ?_;simp only[T9,E0]
     simp_all
   |fn f cs =>
    simp only at h1
    cases h3:capArgs H p cs with
    |none=>simp[h3] at h1
    |some r3 =>
    simp only[h3] at h1;injection h1 with h1;injection h1 with e1 e2;subst e2
    rcases fb2 h3 h with h|h
    ·exact .inl h
    ·refine .inr ?_;simp only[T9,E0]
     simp_all
   |ptr id i c g =>
    rcases hcap h1 rfl with h|h
    ·exact .inl h
    ·refine .inr ?_
     have:y=id:=by simpa [xb7,show Aa4 []=[] from rfl] using h
     subst this;simp only[T9];exact Qck
   |_ =>
    rcases hcap h1 rfl with h|h
    ·exact .inl h
    ·cases h
  ·exact .inr (hrest h)
theorem Ub2:∀{roots:List Nat} {H out H1:List c7},putBack H roots out=some H1->∀{id:Nat},id∉roots->F4 H H1 id
 |[],H,[],H1,h,id,_=>by
  simp only[putBack] at h;injection h with h;subst h;exact .refl _ _
 |[],H,c::out,H1,h,id,_=>by
  simp only[putBack] at h;injection h with h;subst h;exact .app _ _ _
 |r::roots,H,[],H1,h,id,_=>by simp[putBack] at h
 |r::roots,H,c::out,H1,h,id,hn=>by
  simp only[putBack] at h;simp only[Qbp,not_or] at hn;exact (F4.modAt H _ (λe=>hn.1 e.symm)).trans (Ub2 h hn.2)
theorem lc3(held:Bool)(H:List c7):∀(lent:List Nat) (id:Nat),F4 H (settle lent held H) id
 |[],id=>.refl _ _
 |l::lent,id=>by
  have ih:=lc3 held H lent id;rw[bb1];split
  ·exact ih.trans (.disown _ _ _)
  ·exact ih
theorem pb1{f:FuncId}{args:List b9}{x:b9}(he:(callA E f args H).run=some (x,H1)){id:Nat}(hid:id∉T9 (E.own f) 0 args):F4 H H1 id:=by
 unfold callA at he;cases hpr:prepArgs H (E.own f) { roots:=[],lent:=[] } 0 args with
 |none=>rw[hpr] at he;cases he
 |some q =>
 obtain⟨xb4,p⟩:=q;rw[hpr] at he
 simp only at he
 have hroot:id∉p.roots:=λh=>by
  rcases xb8 hpr h with h|h
  ·cases h
  ·exact hid h
 split at he
 ·obtain⟨⟨r,out⟩,_,he⟩:=DT.run_bind_some he
  simp only at he
  cases hpb:putBack H p.roots out with
  |none=>rw[hpb] at he;cases he
  |some H2 =>
  rw[hpb] at he;simp only[DT.run_ret] at he;injection he with he;injection he with e1 e2;subst e2
  exact (Ub2 hpb hroot).trans (lc3 _ _ _ _)
 ·cases he
theorem Zc6{o:PO}(ho:vc0 o=true){x:b9}(he:(evalOp E a H o).run=some (x,H1)){id:Nat}(hid:id∉D9 E a o):F4 H H1 id:=by
 cases o with
 |alloc z =>
  simp only[evalOp,DT.run_ret] at he;injection he with he;injection he with e1 e2;subst e2
  exact .app _ _ _
 |box y =>
  simp only[evalOp] at he;cases hf:freezeCells H (A0 (c9 E a y)) with
  |none=>rw[hf] at he;cases he
  |some p =>
  rw[hf] at he;simp only[DT.run_ret] at he;injection he with he;injection he with e1 e2;subst e2
  exact (qa2 hf id).trans (.app _ _ _)
 |bslice et es n z parts =>
  simp only[evalOp] at he
  split at he
  ·rename_i cs _;cases hf:freezeCells H cs with
   |none=>rw[hf] at he;cases he
   |some p =>
   rw[hf] at he;simp only[DT.run_ret] at he;injection he with he;injection he with e1 e2;subst e2
   exact (qa2 hf id).trans (.app _ _ _)
  ·cases he
 |mksl et es bytes z l c =>
  simp only[evalOp] at he
  split at he
  ·obtain⟨_,h⟩:=DT.run_guard_some he;simp only[DT.run_ret] at h;injection h with h;injection h with e1 e2;subst e2
   exact .app _ _ _
  ·cases he
 |store n p y =>
  have hid':id∉da3 (c9 E a p):=hid;simp only[evalOp] at he
  revert he hid'
  cases c9 E a p with
  |ptr l i c g =>
   intro he hid'
   simp only at he
   cases hf:freezeCells H (A0 (c9 E a y)) with
   |none=>rw[hf] at he;cases he
   |some q =>
   rw[hf] at he
   simp only at he
   split at he
   ·obtain⟨_,he⟩:=DT.run_guard_some he;simp only[DT.run_ret] at he;injection he with he;injection he with e1 e2;subst e2
    exact (qa2 hf id).trans (.setAt _ _ λe=>hid' (by simp[da3,e]))
   ·cases he
  |_=>intro he _;cases he
 |append et es bytes s y =>
  have hid':id∉da3 (c9 E a s):=hid;have he':(appendA et es bytes (c9 E a s) (c9 E a y) H).run=some (x,H1):=he
  revert he' hid'
  generalize c9 E a s=u;intro hid' he;unfold appendA at he
  split at he
  ·split at he
   ·rcases DT.run_ite_some he with⟨_,h⟩|⟨_,h⟩
    ·simp only[DT.run_ret] at h;injection h with h;injection h with e1 e2;subst e2;exact .refl _ _
    ·obtain⟨_,h⟩:=DT.run_guard_some h;simp only[DT.run_ret] at h;injection h with h;injection h with e1 e2;subst e2;exact .app _ _ _
   ·split at he
    ·split at he
     ·obtain⟨_,h⟩:=DT.run_guard_some he;simp only[DT.run_ret] at h;injection h with h;injection h with e1 e2;subst e2
      exact .setAt _ _ λe=>hid' (by simp[da3,e])
     ·cases he
    ·cases he
   ·cases he
  ·cases he
 |copy es d s=>cases he
 |apre es s y =>
  have hid':id∉da3 (c9 E a s):=hid;have he':(apreA es (c9 E a s) (c9 E a y) H).run=some (x,H1):=he
  revert he' hid'
  generalize c9 E a s=u;intro hid' he;unfold apreA at he
  split at he
  ·split at he
   ·obtain⟨_,h⟩:=DT.run_guard_some he;simp only[DT.run_ret] at h;injection h with h;injection h with e1 e2;subst e2;exact .refl _ _
   ·split at he
    ·split at he
     ·obtain⟨_,h⟩:=DT.run_guard_some he;simp only[DT.run_ret] at h;injection h with h;injection h with e1 e2;subst e2
      exact .setAt _ _ λe=>hid' (by simp[da3,e])
     ·cases he
    ·cases he
   ·cases he
  ·cases he
 |clr es z y =>
  have hid':id∉da3 (c9 E a y):=hid;have he':clrA es z (c9 E a y) H=some (x,H1):=jb7 he
  revert he' hid'
  generalize c9 E a y=u;intro hid' he;unfold clrA at he
  split at he
  ·injection he with he;injection he with e1 e2;subst e2;exact .refl _ _
  ·split at he
   ·split at he
    ·injection he with he;injection he with e1 e2;subst e2
     exact .setAt _ _ λe=>hid' (by simp[da3,e])
    ·cases he
   ·cases he
  ·cases he
 |asl n es y =>
  have he':aslA n es (c9 E a y) H=some (x,H1):=jb7 he
  revert he'
  generalize c9 E a y=u;intro he;unfold aslA at he
  split at he
  ·split at he
   ·split at he
    ·injection he with he;injection he with e1 e2;subst e2;exact .disown _ _ _
    ·cases he
   ·cases he
  ·cases he
 |mkfz f caps =>
  simp only[evalOp] at he
  split at he
  ·split at he
   ·split at he
    ·rename_i l Ha hz;simp only[DT.run_ret] at he;injection he with he;injection he with e1 e2;subst e2
     exact Ub0 hz id
    ·cases he
   ·cases he
  ·cases he
 |call f args=>exact pb1 he hid
 |calld y args =>
  have hid':id∉D9 E a (.calld y args):=hid;simp only[evalOp] at he;simp only[D9] at hid'
  revert he hid'
  cases c9 E a y with
  |fn f caps =>
   intro he hid'
   simp only at he hid'
   cases hb:Nat.ble bfB f with
   |false=>rw[hb] at he hid';exact pb1 he hid'
   |true =>
    rw[hb] at he hid';cases caps with
    |nil=>cases he
    |cons c cs=>exact pb1 he hid'
  |_=>intro he;cases he
 |invk tbl y args =>
  have hid':id∉D9 E a (.invk tbl y args):=hid;simp only[evalOp] at he;simp only[D9] at hid'
  revert he hid'
  cases wc2 tbl (c9 E a y) with
  |none=>intro he;cases he
  |some q=>exact λhe hid'=>pb1 he hid'
 |bad=>cases he
 |_=>cases ho
end
theorem xb9{E:Env}:∀(l r:List PI) (s:St),D8 E (l++r) s=(D8 E l s).bind (D8 E r)
 |[],r,s=>rfl
 |p::l,r,s=>by
  have e1:D8 E (p::l++r) s=(Aa3 E s p).bind (D8 E (l++r)):=rfl;have e2:D8 E (p::l) s=(Aa3 E s p).bind (D8 E l):=rfl;rw[e1,e2]
  have:D8 E (l++r)=λs=>(D8 E l s).bind (D8 E r):=funext λs=>xb9 l r s
  rw[this];generalize Aa3 E s p=d
  induction d with
  |ret x=>rfl
  |fail=>rfl
  |ite b t e iht ihe=>simp only[DT.bind_ite,iht,ihe]
def pb2(E:Env)(f:Nat->Option PI)(T:Nat->St)(j:Nat):Prop:=match f j with
 |some p=>(Aa3 E (T j) p).run=some (T (j+1))
 |none=>T (j+1)=T j
theorem Ba0{E:Env}(f:Nat->Option PI):∀(n:Nat) (s s':St),(D8 E ((List.range n).filterMap f) s).run=some s'->∃T:Nat->St,T 0=s/\T n=s'/\∀j,j<n->pb2 E f T j
 |0,s,s',h=>⟨λ_=>s,rfl,by simpa [D8] using h,λj hj=>by omega⟩
 |n+1,s,s',h=>by
  rw[List.range_succ,List.filterMap_append,xb9] at h;obtain⟨s1,h1,h2⟩:=DT.run_bind_some h;obtain⟨T,t0,t1,t2⟩:=Ba0 f n s s1 h1;refine⟨λj=>if j<=n then T j else s',by simp[t0],if_neg (by omega),λj hj=>?_⟩
  unfold pb2;by_cases hjn:j<n
  ·have:=t2 j hjn
   unfold pb2 at this
   grind
  ·have:j=n:=by omega
   subst this;simp only[Qac,if_true,show ¬ (j+1<=j) from by omega,if_false,t1]
   cases hf:f j with
   |none =>
    simp only[List.filterMap_cons,hf,List.filterMap_nil] at h2;have h2':some s1=some s':=h2
    simp_all
   |some p =>
    simp only[List.filterMap_cons,hf,List.filterMap_nil] at h2;have h2':((Aa3 E s1 p).bind (D8 E [])).run=some s':=h2;obtain⟨s2,h3,h4⟩:=DT.run_bind_some h2';have h4':some s2=some s':=h4
    simp_all
open Classical in
def U9(H:List c7)(D:Nat->Prop):List c7:=H.mapIdx λi b=>if D i then { b with dead:=true } else b
open Classical in
def Ea9(a b:List b9)(D:Nat->Prop):List b9:=a.mapIdx λi x=>if D i then (b[i]?).getD .unk else x
section
variable{H H' H0:List c7}{D D':Nat->Prop}{a c:List b9}
theorem Ta8:(U9 H D).length=H.length:=by simp[U9]
theorem L8{i:Nat}(h:¬ D i):(U9 H D)[i]?=H[i]?:=by
 simp only[U9,Qcc,if_neg h];cases H[i]?<;>rfl
theorem da5{i:Nat}(h:D i):(U9 H D)[i]?=(H[i]?).map λb=>{ b with dead:=true }:=by
 simp only[U9,Qcc,if_pos h]
theorem Ad5{i:Nat}{b:c7}(h:(U9 H D)[i]?=some b)(hd:b.dead=false):¬ D i/\H[i]?=some b:=by
 by_cases hD:D i
 ·rw[da5 hD] at h
  grind
 ·exact⟨hD,by rwa [L8 hD] at h⟩
theorem Ga0:(Ea9 a c D).length=a.length:=by simp[Ea9]
theorem Ga1{i:Nat}(h:¬ D i):(Ea9 a c D)[i]?=a[i]?:=by
 simp only[Ea9,Qcc,if_neg h];cases a[i]?<;>rfl
theorem Ub3{i:Nat}(h:D i)(hi:i<a.length):(Ea9 a c D)[i]?=some ((c[i]?).getD .unk):=by
 simp only[Ea9,Qcc,if_pos h,Qaa hi,Option.map_some]
theorem Ad6(h:∀i,¬ D i):Ea9 a c D=a:=Qcd λi=>Ga1 (h i)
theorem Ad7(h:∀i,¬ D i):U9 H D=H:=Qcd λi=>L8 (h i)
theorem md8(H:List c7)(d:Nat)(l:List Nat):Ob0 H (d::l)=modAt (Ob0 H l) d λb=>{ b with dead:=true }:=rfl
theorem be8(H:List c7)(f:c7->c7)(d i:Nat):(modAt H d f)[i]?=if d=i then (H[i]?).map f else H[i]?:=by
 unfold modAt;rw[p9];by_cases e:d=i
 ·subst e;rw[if_pos rfl];cases h:H[d]? with
  |none=>simp[h]
  |some b=>simp only[r6];rw[Qcb (Qab.1 h).1];rfl
 ·rw[if_neg e];cases h:H[d]? with
  |none=>rfl
  |some b=>simp only[r6];rw[Qaf e]
theorem Td5(l:List Nat):Ob0 H l=U9 H (·∈l):=by
 refine Qcd λi=>?_
 induction l with
 |nil=>rw[L8 (by simp)];rfl
 |cons d l ih =>
  rw[md8,be8,ih];by_cases e:d=i
  ·subst e;rw[if_pos rfl,da5 (D:=(·∈d::l)) (by simp)]
   by_cases hd:d∈l
   ·rw[da5 hd];cases H[d]?<;>rfl
   ·rw[L8 hd]
  ·rw[if_neg e];by_cases hd:i∈l
   ·rw[da5 hd,da5 (D:=(·∈d::l)) (by simp[hd])]
   ·rw[L8 hd,L8 (D:=(·∈d::l)) (by simp[hd];exact λh=>e h.symm)]
theorem yb0 (H0 H : List c7) (d : Nat) (l : List Nat) : Ma7 H0 H (d :: l) = match nth H0 d with
  |some b=>setAt (Ma7 H0 H l) d b
  |none=>Ma7 H0 H l:=rfl
theorem Ad8(l:List Nat):(Ma7 H0 H l).length=H.length:=by
 induction l with
 |nil=>rfl
 |cons d l ih =>
  rw[yb0];split
  ·rw[r6];simp[ih]
  ·exact ih
theorem yc8{l:List Nat}{i:Nat}(h:i∉l):(Ma7 H0 H l)[i]?=H[i]?:=by
 induction l with
 |nil=>rfl
 |cons d l ih =>
  simp only[Qbp,not_or] at h;rw[yb0];split
  ·rw[r6,Qaf (λe=>h.1 e.symm)];exact ih h.2
  ·exact ih h.2
theorem dc2{l:List Nat}{i:Nat}(h:i∈l)(h0:i<H0.length)(h1:i<H.length):(Ma7 H0 H l)[i]?=H0[i]?:=by
 induction l with
 |nil=>cases h
 |cons d l ih =>
  rw[yb0,p9];by_cases e:d=i
  ·subst e;rw[Qaa h0];simp only[r6];rw[Qcb (by rw[Ad8];exact h1)]
  ·have hm:i∈l:=(Qbp.1 h).resolve_left λh=>e h.symm
   split
   ·rw[r6,Qaf e];exact ih hm
   ·exact ih hm
end
section
variable{ops:Array Oper}{M:List Nat}
theorem xa1{o:Oper}{i:Nat}:i∈w8 o↔∃e∈o.after,Region.binds .any e=true/\e.on=i:=by
 simp[w8,and_assoc]
theorem Gb0(h:Yc5 ops M=true){j:Nat}{o:Oper}(ho:ops[j]?=some o){i:Nat}(hi:i∈w8 o):i<j:=by
 have hj:=(Qbo.1 ho).1
 have:=Qcf.1 h j (Qcj.2 hj)
 simp_all
theorem lc4(h:Yc5 ops M=true)(ex:Nat->Prop)(hex:∀(j:Nat) o,ops[j]?=some o->ex j->∀i∈w8 o,ex i) :
  ∀(j:Nat) (o:Oper),ops[j]?=some o->(∀i∈w8 o,ex i)->∀i,i<ops.size->p8 M i j=true->ex i:=by
 intro j
 induction j using Nat.strongRecOn with
 |_ j ih =>
  intro o ho hd i hi hb;have hj:=(Qbo.1 ho).1
  have:=Qcf.1 h j (Qcj.2 hj)
  simp only[ho,Qbd] at this;have h2:=Qcf.1 this.2 i (Qcj.2 hi);unfold p8 at hb;rw[hb] at h2;simp only[Bool.not_true,Bool.false_or,List.any_eq_true,Bool.or_eq_true] at h2;obtain⟨m,hm,h3⟩:=h2
  rcases h3 with h3|h3
  ·simp_all
  ·have hlt:=Gb0 h ho hm;have hms:m<ops.size:=by omega
   have hom:ops[m]?=some ops[m]:=Qai hms;exact ih m hlt _ hom (hex m _ hom (hd m hm)) i hi h3
end
end Go.Ev
