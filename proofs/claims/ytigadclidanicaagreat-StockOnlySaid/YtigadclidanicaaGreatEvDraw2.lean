/- Own work. -/
import Derived.Test.YtigadclidanicaaGreatEvCall
import Derived.LoopN
import Derived.Scope
set_option linter.all false
noncomputable section
def Qca:=@List.getElem?_eq_getElem
def Qcb:=@List.getElem?_eq_some_iff
def Qcc:=@List.getElem?_append_left
def Qcd:=@List.getElem?_set_ne
def Qce:=@Option.some.inj
def Qcf:=@Bool.and_eq_true
def Qcg:=@List.mem_of_getElem?
def Qch:=@Nat.eq_of_beq_eq_true
def Qci:=@List.getElem?_append_right
def Qcj:=@List.getElem?_set_self
def Qck:=@Array.getElem?_eq_getElem
def Qcl:=@Option.isSome_iff_exists
def Qcm:=@List.all_eq_true
def Qcn:=@List.getElem?_eq_none
def Qco:=@Nat.le_of_ble_eq_true
def Qcp:=@List.mem_range
def Qcq:=@Option.map_eq_some_iff
def Qcr:=@List.any_eq_false
def Qcs:=@Nat.lt_or_ge
def Qct:=@List.getElem?_mapIdx
def Qcu:=@List.mem_cons_self
def Qcv:=@Nat.blt_eq
def Qcw:=@List.ext_getElem?
def Qcx:=@List.getElem?_map
def Qcy:=@Bool.not_eq_true'
def Qcz:=@List.mem_cons
def Qcaa:=@List.mem_append_right
def Qcab:=@List.mem_cons_of_mem
def Qcac:=@Nat.zero_add
def Qcad:=@List.mem_append_left
def Qcae:=@Bool.or_eq_true
def Qcaf:=@List.map_congr_left
def Qcag:=@Nat.le_refl
def Qcah:=@Array.getElem?_eq_some_iff
def Qcai:=@List.mem_flatMap
def Qcaj:=@Nat.ne_of_beq_eq_false
namespace Go.Ev
open Go
section
variable{W:Nat->Prop}{ρ ρ1:Rho}{H H2 blks out:List c8}{F F1:Fz}{w w1:World}
theorem ie0(H:List c8)(id:Nat)(f:c8->c8)(b:c8)(hb:H[id]?=some b):modAt H id f=H.set id (f b):=by
 simp[modAt,E2,hb,E3]
theorem Md0(H:List c8)(id:Nat)(f:c8->c8):(modAt H id f).length=H.length:=by
 unfold modAt;split
 ·rw[E3];simp
 ·rfl
theorem sd8:∀{roots:List Nat} {H out H2:List c8},roots.Nodup->(∀id∈roots,id<H.length)->putBack H roots out=some H2 ->
  roots.length<=out.length/\H2.length=H.length+(out.length-roots.length) /\
  (∀(j:Nat) id,roots[j]?=some id->∃b c,H[id]?=some b/\out[j]?=some c/\H2[id]?=some { c with g:=b.g+c.g }) /\
  (∀id,id<H.length->id∉roots->H2[id]?=H[id]?)/\∀i,H2[H.length+i]?=out[roots.length+i]?
 |[],H,out,H2,_,_,h=>by
  have h2:H2=H++out:=by
   cases out with
   |nil=>simp[putBack] at h;simp[h]
   |cons c out=>simp[putBack,I5] at h;exact h.symm
  subst h2;refine⟨by simp,by simp,λj id h=>by simp at h,λid hid _=>Qcc hid,λi=>?_⟩
  rw[Qci (by omega)]
  simp
 |id::roots,H,[],H2,_,_,h=>by simp[putBack] at h
 |id::roots,H,c::out,H2,hn,hlt,h=>by
  simp only[putBack] at h;have hid:=hlt id (by simp)
  have hb:=Qca hid;rw[ie0 H id _ _ hb] at h;obtain⟨hn1,hn2⟩:=List.nodup_cons.1 hn;obtain⟨h1,h2,h3,h4,h5⟩:=sd8 hn2 (λid' h'=>by simp;exact hlt id' (by simp[h'])) h
  simp only[List.length_set] at h2 h4 h5;refine⟨by simp;omega,by simp only[List.length_cons];omega,λj id' hj=>?_,λid' hid' hni=>?_,λi=>?_⟩
  ·cases j with
   |zero =>
    simp at hj
    subst hj;refine⟨_,c,hb,rfl,?_⟩;rw[h4 id hid hn1,Qcj hid]
   |succ j =>
    obtain⟨b',c',g1,g2,g3⟩:=h3 j id' (by simpa using hj)
    have hne:id≠id':=λe=>by subst e;exact hn1 (Qcg (by simpa using hj))
    rw[Qcd hne] at g1;exact⟨b',c',g1,by simpa using g2,g3⟩
  ·have hne:id≠id':=λe=>hni (by simp[e])
   rw[h4 id' hid' (λh=>hni (by simp[h])),Qcd hne]
  ·rw[h5 i];simp only[List.length_cons];rw[show roots.length+1+i=(roots.length+i)+1 by omega]
   simp
theorem Ob7(id:Nat)(lent:List Nat)(held:Bool)(H:List c8):settle (id::lent) held H=if held then disown (settle lent held H) id else settle lent held H:=by
 have e:settle (id::lent) held H=modAt (settle lent held H) id λb=>{ b with own:=Bool.rec b.own false held }:=rfl
 rw[e];cases held with
 |true=>rfl
 |false =>
  show modAt (settle lent false H) id (λb=>b)=settle lent false H
  unfold modAt;rw[E2];cases h:(settle lent false H)[id]? with
  |none=>rfl
  |some b =>
   show setAt (settle lent false H) id b=_;rw[E3];apply Qcw;intro i;rw[List.getElem?_set];split
   ·next hi =>
    subst hi;rw[h];split
    ·rfl
    ·next hn=>rw[Qcn (by omega)] at h;cases h
   ·rfl
theorem Md1(held:Bool)(H:List c8):∀(lent:List Nat),(settle lent held H).length=H.length /\
  ∀(id:Nat) b2,(settle lent held H)[id]?=some b2->∃b,H[id]?=some b/\b2={ b with own:=b2.own }/\(b2.own=b.own\/(held=true/\id∈lent/\b2.own=false))/\(held=true->id∈lent->b2.own=false)
 |[]=>⟨rfl,λid b2 h=>⟨b2,h,rfl,.inl rfl,λ_ h=>by simp at h⟩⟩
 |l::lent=>by
  obtain⟨h1,h2⟩:=Md1 held H lent;rw[Ob7];cases held with
  |false =>
   simp only[Bool.false_eq_true,if_false];refine⟨h1,λid b2 hb=>?_⟩
   obtain⟨b,g1,g2,g3,g4⟩:=h2 id b2 hb;refine⟨b,g1,g2,?_,λh=>by cases h⟩
   rcases g3 with g3|⟨g3,_⟩
   ·exact .inl g3
   ·cases g3
  |true =>
   simp only[if_true];refine⟨by simp[disown,Md0,h1],λid b2 hb=>?_⟩
   by_cases hl:l=id
   ·subst hl;have hlt:l<(settle lent true H).length:=by
     have:=(Qcb.1 hb).1
     simpa [disown,Md0] using this
    have hg:=Qca hlt;obtain⟨b,g1,g2,g3,g4⟩:=h2 l _ hg;unfold disown at hb;rw[ie0 _ l _ _ hg,Qcj hlt] at hb;injection hb with hb;subst hb;exact⟨b,g1,by rw[g2],.inr ⟨trivial,Qcu,rfl⟩,λ_ _=>rfl⟩
   ·have hb' : (settle lent true H)[id]? = some b2 := by
     unfold disown modAt at hb
     split at hb
     ·rwa [E3,Qcd hl] at hb
     ·exact hb
    obtain⟨b,g1,g2,g3,g4⟩:=h2 id b2 hb';refine⟨b,g1,g2,?_,λh hm=>?_⟩
    ·rcases g3 with g3|⟨g3,g5,g6⟩
     ·exact .inl g3
     ·exact .inr ⟨trivial,Qcab _ g5,g6⟩
    ·rcases Qcz.1 hm with h'|h'
     ·exact absurd h'.symm hl
     ·exact g4 rfl h'
theorem Xc0:∀{l r:List Nat},Fb8 l r=true->∀x∈l,x∉r
 |[],_,_,x,hx=>by simp at hx
 |y::l,r,h,x,hx=>by
  have h':(Bool.rec (Fb8 l r) false (tb1 y r):Bool)=true:=h;cases hm:tb1 y r with
  |true=>rw[hm] at h';cases h'
  |false =>
   rw[hm] at h'
   rcases Qcz.1 hx with rfl|hx
   ·rw[tf0] at hm;simpa using hm
   ·exact Xc0 h' x hx
theorem ie1{p:Ma7}{held:Bool}(hp:Gb5 H p)(hbl:blksAt H p.roots=some blks)(hap:Fb8 p.lent p.roots=true)(hpb:putBack H p.roots out=some H2) :
  he8 H blks out (settle p.lent held H2) (Ob6 p.roots) (·∈p.lent) (held=true):=by
 obtain⟨hl,hat⟩:=Fb1 hbl;have hlt:∀id∈p.roots,id<H.length:=λid hid=>by
  obtain⟨b,hb,_⟩:=hp.live id hid;exact (Qcb.1 hb).1
 obtain⟨g1,g2,g3,g4,g5⟩:=sd8 hp.nodup hlt hpb;obtain⟨s1,s2⟩:=Md1 held H2 p.lent;have hnone:∀id,Ob6 p.roots id=none->id∉p.roots:=λid h=>Cb2 _ _ _ h
 have hnot:∀id,id∈p.lent->Ob6 p.roots id=none:=λid hid=>by
  cases h:Ob6 p.roots id with
  |none=>rfl
  |some j=>exact absurd (Qcg (Pa6 h)) (Xc0 hap id hid)
 refine⟨λid j h=>?_,λid id' j h h'=>?_,λj hj=>?_,λid j b h hb=>?_,λid h=>⟨hnot id h,hp.lent id h⟩,by omega,λid b2 hid hn hb2=>?_,λid b2 hh hm hb2=>?_,λid j b2 h hb2=>?_,λid b2 hge hb2=>?_,by rw[s1,g2,hl]⟩
 ·have h1:=Pa6 h;exact⟨hlt id (Qcg h1),by rw[hl];exact (Qcb.1 h1).1⟩
 ·have h1:=Pa6 h;have h2:=Pa6 h';exact Qce (h1.symm.trans h2)
 ·rw[hl] at hj;exact⟨p.roots[j],sd6 hp.nodup (Qca hj)⟩
 ·have h1:=Pa6 h;obtain⟨b',hb',hb2⟩:=hat j id h1
  have:b'=b:=Qce (hb'.symm.trans hb)
  subst this;obtain⟨b3,hb3,hd3⟩:=hp.live id (Qcg h1)
  have:b3=b':=Qce (hb3.symm.trans hb)
  subst this;exact⟨hb2,hd3⟩
 ·obtain⟨b,k1,k2,k3,_⟩:=s2 id b2 hb2;rw[g4 id hid (hnone id hn)] at k1;refine⟨b,k1,k2,?_⟩
  rcases k3 with k3|⟨a1,a2,a3⟩
  ·exact .inl k3
  ·exact .inr ⟨a1,a2,a3⟩
 ·obtain⟨b,k1,k2,k3,k4⟩:=s2 id b2 hb2;exact k4 hh hm
 ·have h1:=Pa6 h;obtain⟨b,c,k1,k2,k3⟩:=g3 j id h1;obtain⟨b',m1,m2,m3,_⟩:=s2 id b2 hb2
  have:b'={ c with g:=b.g+c.g }:=Qce (m1.symm.trans k3)
  subst this;refine⟨b,c,k1,k2,?_⟩
  rcases m3 with m3|⟨_,m4,_⟩
  ·rw[m2,m3]
  ·exact absurd (hnot id m4) (by rw[h];simp)
 ·obtain⟨b',m1,m2,m3,_⟩:=s2 id b2 hb2;have e:id=H.length+(id-H.length):=by omega
  rw[e,g5] at m1;rw[hl]
  rcases m3 with m3|⟨_,m4,_⟩
  ·have:b2=b':=by rw[m2,m3]
   rw[this];exact m1
  ·obtain⟨b3,hb3,_⟩:=hp.lent id m4
   have:=(Qcb.1 hb3).1
   omega
def Ud7:c7->Bool
 |.agg _ | .tup _ | .fn _ _=>false
 |_=>true
theorem Md2{p:Ma7}{held:Bool}(hp:Gb5 H p)(hbl:blksAt H p.roots=some blks)(hap:Fb8 p.lent p.roots=true)(hpb:putBack H p.roots out=some H2){j g id g':Nat}{c:c8}(hc:out[j]?=some c)
  (hid:backId H p.roots j g=(id,g')):∃b2,(settle p.lent held H2)[id]?=some b2/\(∃n,b2={ c with g:=n+c.g }/\g'=n+g)/\Ca0 ρ ρ1 H.length blks.length (Ob6 p.roots) id=ρ1 j:=by
 have hS:=ie1 (held:=held) hp hbl hap hpb;obtain⟨hl,hat⟩:=Fb1 hbl;unfold backId at hid;rw[E2] at hid;cases hr:p.roots[j]? with
 |some id0 =>
  obtain⟨b,hb,_⟩:=hat j id0 hr;simp only[hr,E2,hb] at hid;injection hid with e1 e2;subst e1 e2;have hpos:=sd6 hp.nodup hr;have hlt2:id0<(settle p.lent held H2).length:=by have:=hS.len;have:=(hS.posLt id0 j hpos).1;omega
  obtain⟨b',c',k1,k2,k3⟩:=hS.root id0 j _ hpos (Qca hlt2)
  have:b'=b:=Qce (k1.symm.trans hb)
  subst this
  have:c'=c:=Qce (k2.symm.trans hc)
  subst this;exact⟨_,Qca hlt2,⟨b'.g,k3,rfl⟩,by simp[Ca0,hpos]⟩
 |none =>
  simp only[hr,n9] at hid;injection hid with e1 e2;subst e1 e2;have hjl:=(Qcb.1 hc).1;have hjge:p.roots.length<=j:=by
   rcases Qcs j p.roots.length with h|h
   ·rw[Qca h] at hr;cases hr
   ·exact h
  have hlt2:H.length+(j-p.roots.length)<(settle p.lent held H2).length:=by have:=hS.len;omega
  have hn:=hS.new _ _ (by omega) (Qca hlt2)
  have e:blks.length+(H.length+(j-p.roots.length)-H.length)=j:=by omega
  rw[e] at hn;have hbc:=Qce (hn.symm.trans hc);refine⟨_,Qca hlt2,⟨0,by rw[hbc];simp,by simp⟩,?_⟩
  have hnn:Ob6 p.roots (H.length+(j-p.roots.length))=none:=by
   cases h:Ob6 p.roots (H.length+(j-p.roots.length)) with
   |none=>rfl
   |some j'=>have:=(hS.posLt _ _ h).1;omega
  have hnl:¬ (H.length+(j-p.roots.length)<H.length):=by omega
  simp only[Ca0,hnn,if_neg hnl];rw[e]
section
variable{p:Ma7}{held:Bool}(hp:Gb5 H p)(hbl:blksAt H p.roots=some blks)(hap:Fb8 p.lent p.roots=true)(hpb:putBack H p.roots out=some H2)
include hp hbl hap hpb
theorem yc3{x:c7}{x':Value}(hx:ga3 ρ1 out F1 w1 x x')(hh:held=true\/Ya4 x=false) :
  ga3 (Ca0 ρ ρ1 H.length blks.length (Ob6 p.roots)) (settle p.lent held H2) (Ec1 ρ H F F1 (·∈p.lent) (held=true)) w1 (backC H p.roots x) x':=by
 have hm:∀{y y'},ia7 F1 w1 y y'->(held=true\/Ya4 y=false)->ia7 (Ec1 ρ H F F1 (·∈p.lent) (held=true)) w1 y y':=λ{y y'} h hh=>by
  rcases hh with hh|hh
  ·exact h.adv (λb o h=>⟨h,.inl hh⟩) (λ_ _ _=>rfl)
  ·exact h.bare hh
 cases hx with
 |mem h =>
  cases h with
  |v u h1=>exact .v _
  |fn f caps vs _ e hl hb h=>exact .mem (hm (.fn f caps vs _ e hl hb h) hh)
  |tree es n get ad cap cs hs hcap hes hF hw hr =>
   have hh':held=true:=hh.resolve_right (by simp[Ya4])
   exact .mem (hm (.tree es n get ad cap cs hs hcap hes hF hw hr) (.inl hh'))
  |nil es get=>exact .mem (.nil es get)
 |v u=>exact .v _
 |ptr id i c g ad b hb hd hg h =>
  simp only[backC];cases hid:backId H p.roots id g with
  |mk id2 g2 =>
  obtain⟨b2,k1,⟨n,k2,k3⟩,k4⟩:=Md2 (ρ:=ρ) (ρ1:=ρ1) (held:=held) hp hbl hap hpb hb hid;refine .ptr id2 i c g2 ad b2 k1 (by rw[k2];exact hd) (by rw[k2,k3];simp;exact hg) λhge=>?_
  rw[k4,h (by rw[k2,k3] at hge;simp at hge;omega),k2]
 |sl id off n g ad cap b hb hd hg hn hs hcm h =>
  simp only[backC];cases hid:backId H p.roots id g with
  |mk id2 g2 =>
  obtain⟨b2,k1,⟨m,k2,k3⟩,k4⟩:=Md2 (ρ:=ρ) (ρ1:=ρ1) (held:=held) hp hbl hap hpb hb hid;refine .sl id2 off n g2 ad cap b2 k1 (by rw[k2];exact hd) (by rw[k2,k3];simp;exact hg) hn hs hcm λhge=>?_
  have:=h (by rw[k2,k3] at hge;simp at hge;omega)
  rw[k4,k2];exact this
 |tptr cs ad vs hs hF hw hr =>
  have hh':held=true:=hh.resolve_right (by simp[Ya4])
  exact .tptr cs ad vs hs (λc hc=>⟨hF c hc,.inl hh'⟩) hw λc hc=>hm (hr c hc) (.inl hh')
 |unk x'=>exact .unk _
theorem af0{x:c7}{x':Value}(hx:qa6 ρ1 out F1 w1 x x')(hh:held=true\/Ua9 x=false) :
  qa6 (Ca0 ρ ρ1 H.length blks.length (Ob6 p.roots)) (settle p.lent held H2) (Ec1 ρ H F F1 (·∈p.lent) (held=true)) w1 (backVal1 H p.roots x) x':=by
 have hbar:∀{y:c7},Ud7 y=true->backVal1 H p.roots y=backC H p.roots y/\Ua9 y=Ya4 y:=λ{y} h=>by
  cases y with
  |agg=>cases h
  |tup=>cases h
  |fn=>cases h
  |_=>exact⟨rfl,rfl⟩
 cases hx with
 |cell h =>
  by_cases hb:Ud7 x=true
  ·obtain⟨e1,e2⟩:=hbar hb;rw[e1];exact .cell (yc3 hp hbl hap hpb h (e2 ▸ hh))
  ·cases h with
   |mem h=>cases h with
    |fn f caps vs _ e hl hb2 h =>
     have e2:backVal1 H p.roots (.fn f caps)=backC H p.roots (.fn f caps):=by
      show c7.fn f (o7 (backC H p.roots) caps)=.fn f caps;rw[l9];congr 1;refine (Qcaf λy hy=>?_).trans (List.map_id _)
      have:=oc3 hb2 y hy
      cases y with
      |v=>rfl
      |tree=>rfl
      |_=>cases this
     rw[e2];exact .cell (yc3 hp hbl hap hpb (.mem (.fn f caps vs _ e hl hb2 h)) hh)
    |_=>exact absurd rfl hb
   |_=>exact absurd rfl hb
 |agg cs vs hl h =>
  show qa6 _ _ _ _ (.agg (o7 (backC H p.roots) cs)) _;rw[l9];refine .agg _ vs (by simpa using hl) λi x x' hx hx'=>?_
  simp only[Qcx,Qcq] at hx;obtain⟨y,hy,rfl⟩:=hx;refine yc3 hp hbl hap hpb (h i y x' hy hx') (hh.imp id λhh=>?_)
  have hh':cs.any Ya4=false:=hh;rw[Qcr] at hh';simpa using hh' y (Qcg hy)
 |fn f caps vs hl h =>
  show qa6 _ _ _ _ (.fn f (o7 (backC H p.roots) caps)) _;rw[l9];refine .fn f _ vs (by simpa using hl) λi x x' hx hx'=>?_
  simp only[Qcx,Qcq] at hx;obtain⟨y,hy,rfl⟩:=hx;have hc:=h i y x' hy hx';refine yc3 hp hbl hap hpb hc (hh.imp id λhh=>?_)
  have hh':caps.any Td2=false:=hh;rw[Qcr] at hh'
  have:=hh' y (Qcg hy)
  cases y with
  |fn f l=>cases l with
   |nil=>rfl
   |cons=>exact absurd rfl this
  |tree=>exact absurd rfl this
  |tptr=>exact absurd rfl this
  |_=>rfl
theorem Lf9{x:c7}{x':Value}(hx:J7 ρ1 out F1 w1 x x')(hh:held=true\/Ua9 x=false) :
  J7 (Ca0 ρ ρ1 H.length blks.length (Ob6 p.roots)) (settle p.lent held H2) (Ec1 ρ H F F1 (·∈p.lent) (held=true)) w1 (backVal H p.roots x) x':=by
 cases hx with
 |val h =>
  have e:backVal H p.roots x=backVal1 H p.roots x\/∃vs,x=.tup vs:=by
   cases x with
   |tup vs=>exact .inr ⟨vs,rfl⟩
   |_=>exact .inl rfl
  rcases e with e|⟨vs,rfl⟩
  ·rw[e];exact .val (af0 hp hbl hap hpb h hh)
  ·cases h with
   |cell h=>cases h with
    |mem h=>cases h
 |tup xs vs hl h =>
  show J7 _ _ _ _ (.tup (o7 (backVal1 H p.roots) xs)) _;rw[l9];refine .tup _ vs (by simpa using hl) λi x x' hx hx'=>?_
  simp only[Qcx,Qcq] at hx;obtain⟨y,hy,rfl⟩:=hx;refine af0 hp hbl hap hpb (h i y x' hy hx') (hh.imp id λhh=>?_)
  have hh':xs.any ve5=false:=hh;rw[Qcr] at hh'
  have:=hh' y (Qcg hy)
  have e:Ua9 y=ve5 y\/∃l,y=.tup l:=by
   cases y with
   |tup l=>exact .inr ⟨l,rfl⟩
   |_=>exact .inl rfl
  rcases e with e|⟨l,rfl⟩
  ·rw[e];simpa using this
  ·cases h i _ x' hy hx' with
   |cell h=>cases h with
    |mem h=>cases h
end
end
section
variable{W:Nat->Prop}{ρ:Rho}{H H':List c8}{F:Fz}{w:World}{E:Env}
theorem Hc7(hH:F5 W ρ H F w)(hG:GOk E F w){f:FuncId}(hcall:g9 E.P E.G f (E.call f)){args:List c7}{args':List Value}{x:c7}(hlen:args.length=args'.length)
  (hargs:∀(i:Nat) x x',args[i]?=some x->args'[i]?=some x'->J7 ρ H F w x x') (he:(callA E f args H).run=some (x,H')) :
  Gb4 E.P f/\Calls E.P f args'.toArray w λe w'=>∃x',e=.returned x'/\S4 W ρ H F w x H' x' w':=by
 unfold callA at he;cases hpr:prepArgs H (E.own f) { roots:=[],lent:=[] } 0 args with
 |none=>rw[hpr] at he;cases he
 |some q =>
 obtain⟨args2,p⟩:=q;rw[hpr] at he
 simp only at he
 obtain⟨hp,_,hl2,hPr⟩:=oc6 (H:=H) (p:={ roots:=[],lent:=[] }) ⟨List.nodup_nil,λid h=>by simp at h,λid h=>by simp at h⟩ hpr
 cases hbl:blksAt H p.roots with
 |none=>rw[hbl] at he;cases he
 |some blks =>
 cases hap:Fb8 p.lent p.roots with
 |false=>rw[hbl,hap] at he;cases he
 |true =>
 rw[hbl,hap] at he
 simp only at he
 obtain⟨⟨r,out⟩,hc,he⟩:=DT.run_bind_some he
 simp only at he
 cases hpb:putBack H p.roots out with
 |none=>rw[hpb] at he;cases he
 |some H2 =>
 rw[hpb] at he
 simp only at he
 generalize hheld:(Ua9 r||out.any nc6)=held at he
 have he':some (backVal H p.roots r,settle p.lent held H2)=some (x,H'):=he;injection he' with he';injection he' with e1 e2
 have hS:=ie1 (held:=held) hp hbl hap hpb
 let inv:Nat->Nat:=λj=>(p.roots[j]?).getD 0
 have hinv1:∀(j:Nat) id,p.roots[j]?=some id->inv j=id:=λj id h=>by simp[inv,h]
 obtain⟨hbll,_⟩:=Fb1 hbl;have hinv:∀j,j<blks.length->Ob6 p.roots (inv j)=some j:=λj hj=>by
  rw[hbll] at hj;have h:=Qca hj;rw[hinv1 j _ h];exact sd6 hp.nodup h
 have hst:=hS.start hH inv hinv;have hargs2:∀(i:Nat) y y',args2[i]?=some y->args'[i]?=some y'->J7 (λj=>ρ (inv j)) blks (Ld9 ρ H F (·∈p.lent)) w y y':=λi y y' hy hy'=>by
  have hi:i<args.length:=hl2 ▸ (Qcb.1 hy).1;have hx:=Qca hi;exact (hPr i _ y hx hy).rel hH hbl inv hinv1 (hargs i _ y' hx hy')
 obtain⟨hca,hcalls⟩:=hcall args2 blks r out hc _ _ _ w args' hst (hl2.trans hlen) hargs2 λg c y hy=>by
  obtain⟨h1,h2,h3⟩:=hG g c y hy;exact⟨h1,.inl h2,h3⟩
 refine⟨hca,hcalls.mono λe w' ⟨r',her,ρ1,F1,hA,h1,hr⟩=>?_⟩
 have hheld':held=true\/(Ua9 r=false/\∀b∈out,nc6 b=false):=by
  cases held with
  |true=>exact .inl rfl
  |false =>
   rw[Bool.or_eq_false_iff] at hheld;refine .inr ⟨hheld.1,λb hb=>?_⟩
   have:=Qcr.1 hheld.2 b hb
   simpa using this
 have hbare:held=true\/∀(i:Nat) c (j:Nat) rr (k:Nat) y,out[i]?=some c->c.elems[j]?=some rr->rr[k]?=some y->Ya4 y=false:=by
  rcases hheld' with h|⟨_,h⟩
  ·exact .inl h
  ·refine .inr λi c j rr k y hc hrr hy=>?_
   have h2:=h c (Qcg hc);have h3:=Qcr.1 h2 rr (Qcg hrr);have h4:rr.any Ya4=false:=by simpa using h3
   have h5:=Qcr.1 h4 y (Qcg hy);simpa using h5
 obtain⟨j1,j2⟩:=hS.join hH inv hinv hA h1 hbare;subst her;refine⟨r',rfl,_,_,e2 ▸ j1,e2 ▸ j2,?_⟩;rw[<- e1,<- e2];exact Lf9 hp hbl hap hpb hr (hheld'.imp id λh=>h.1)
variable{o:Oper}{ac:Act}{a:List c7}{x:c7}
theorem Cb3{P:Program}{f:FuncId}(hc:Gb4 P f)(args:Array Value):(callFunc f args).run P w=.ok (.enter f args) w:=by
 obtain⟨fn,h1,h2,h3⟩:=hc;have h2':¬ fn.body=none:=λhb=>by rw[hb] at h2;cases h2
 simp[callFunc,h1,if_neg h2',if_neg h3]
theorem Ge7(hA:Fa4 ρ H F w a ac.tmps)(hG:GOk E F w)(l:Array Operand):(o7 (c9 E a) (l.toList.map i8)).length=(l.map ac.eval).toList.length /\
  ∀(i:Nat) x x',(o7 (c9 E a) (l.toList.map i8))[i]?=some x->((l.map ac.eval).toList)[i]?=some x'->J7 ρ H F w x x':=by
 rw[l9];refine⟨by simp,λi x x' hx hx'=>?_⟩
 simp at hx hx'
 obtain⟨y,hy,rfl⟩:=hx;obtain⟨y',hy',rfl⟩:=hx'
 have:y'=y:=Qce (hy'.symm.trans hy)
 subst this;exact o0 hA hG y'
theorem xe5(hA:Fa4 ρ H F w a ac.tmps)(hH:F5 W ρ H F w)(hG:GOk E F w)(hcalls:∀f,g9 E.P E.G f (E.call f)){c:Call}{f:FuncId}(ho:o.op=.call c)(hc:c.callee=.value (.func f))
  (he:(evalOp E a H (.call f (c.args.toList.map i8))).run=some (x,H')):j5 E.P o ac w (S4 W ρ H F w x H'):=by
 obtain⟨h1,h2⟩:=Ge7 (E:=E) hA hG c.args;obtain⟨k1,k2⟩:=Hc7 hH hG (hcalls f) h1 h2 he;refine .enter (f:=f) (args:=c.args.map ac.eval) ?_ (by
  rw[Array.toArray_toList] at k2;exact k2)
 have hr:=Cb3 (w:=w) k1 (c.args.map ac.eval);simp[execOp,ho,resolve,hc,Act.eval,Deferred.ofValue,invoke,hr]
theorem ie2(hA:Fa4 ρ H F w a ac.tmps)(hH:F5 W ρ H F w)(hG:GOk E F w)(hcalls:∀f,g9 E.P E.G f (E.call f)){c:Call}{y:Operand}(ho:o.op=.call c)(hc:c.callee=.value y)
  (he:(evalOp E a H (.calld (i8 y) (c.args.toList.map i8))).run=some (x,H')):j5 E.P o ac w (S4 W ρ H F w x H'):=by
 obtain⟨h1,h2⟩:=Ge7 (E:=E) hA hG c.args;have hy:=o0 hA hG y;simp only[evalOp] at he
 revert he hy
 cases c9 E a (i8 y) with
 |fn f caps =>
  intro he hy
  simp only at he
  obtain⟨vs,e,hl,h3⟩:=Rb7 hy;cases hb:Nat.ble bfB f with
  |true =>
   rw[hb] at he;cases caps with
   |nil=>cases he
   |cons c0 cs0 =>
   simp only at he
   have hv:vs≠#[]:=λe=>by rw[e] at hl;simp at hl
   rw[fe4 hb hv] at e;obtain⟨k1,k2⟩:=Hc7 (args':=.agg vs::(c.args.map ac.eval).toList) hH hG (hcalls (f-bfB)) (by simp only[List.length_cons];rw[h1]) (λi u u' hu hu'=>by
    cases i with
    |zero =>
     simp only[List.getElem?_cons_zero] at hu hu';cases hu;cases hu';exact .val (.agg _ vs hl h3)
    |succ i =>
     rw[List.getElem?_cons_succ] at hu hu';exact h2 i u u' hu hu') he
   refine .enter (f:=f-bfB) (args:=#[.agg vs]++c.args.map ac.eval) ?_ ?_
   ·have hr:=Cb3 (w:=w) k1 (#[.agg vs]++c.args.map ac.eval);simp[execOp,ho,resolve,hc,e,Deferred.ofValue,invoke,hr]
   ·have:(Value.agg vs::(c.args.map ac.eval).toList).toArray=#[.agg vs]++c.args.map ac.eval:=by simp
    rw[this] at k2;exact k2
  |false =>
  rw[hb] at he
  simp only at he
  rw[Nc0 hb] at e;obtain⟨k1,k2⟩:=Hc7 (args':=(c.args.map ac.eval).toList++vs.toList) hH hG (hcalls f) (by rw[I5];simp only[List.length_append];rw[h1,hl];simp) (λi u u' hu hu'=>by
   rw[I5] at hu
   rcases Qcs i (c.args.map ac.eval).toList.length with hi|hi
   ·rw[Qcc (by rw[h1];exact hi)] at hu
    rw[Qcc hi] at hu';exact h2 i u u' hu hu'
   ·rw[Qci (by rw[h1];exact hi),h1] at hu
    rw[Qci hi] at hu';exact .val (.cell (h3 _ u u' hu (by simpa using hu')))) he
  refine .enter (f:=f) (args:=c.args.map ac.eval++vs) ?_ ?_
  ·have hr:=Cb3 (w:=w) k1 (c.args.map ac.eval++vs);simp[execOp,ho,resolve,hc,e,Deferred.ofValue,invoke,hr]
  ·have:((c.args.map ac.eval).toList++vs.toList).toArray=c.args.map ac.eval++vs:=by simp
   rw[this] at k2;exact k2
 |_=>intro he;cases he
end
section
variable{W:Nat->Prop}{ρ:Rho}{H H':List c8}{F:Fz}{w:World}{E:Env}{o:Oper}{ac:Act}{a:List c7}{x:c7}
theorem l5{α:Prop}(h:(evalOp E a H .bad).run=some (x,H')):α:=by cases h
theorem xe6(hA:Fa4 ρ H F w a ac.tmps)(hH:F5 W ρ H F w)(hG:GOk E F w)(hs:∀cs b,o.op≠.select cs b)(he:(evalOp E a H (Hc0 o)).run=some (x,H')):j5 E.P o ac w (S4 W ρ H F w x H'):=by
 unfold Hc0 at he;cases hts:hb6 o.op.operands.toList with
 |none=>rw[hts] at he;exact l5 he
 |some ts=>rw[hts] at he;exact Ld5 hA hH hG hts hs he
theorem Nc7{P:Program}{t:TypeId}(h:szT P t≠0):∃i,P.info? t=some i/\szT P t=i.size/\i.size≠0:=by
 cases hi:P.info? t with
 |none=>simp[szT,hi] at h
 |some i=>exact⟨i,rfl,by simp[szT,hi],by simpa [szT,hi] using h⟩
theorem V5{α:Type}{x:Array α}{l:List α}(h:x.toList=l):x=l.toArray:=by rw[<- h]
theorem ic9{P:Program}(l:List Operand)(r:List TypeId):(∃s y t u,l=[s,y]/\r=[t,u])\/(Td8 P l r=.bad/\Ze5 P l r=.bad):=by
 rcases l with _|⟨s,_|⟨y,_|⟨_,_⟩⟩⟩<;>rcases r with _|⟨t,_|⟨u,_|⟨_,_⟩⟩⟩<;>first|exact .inr ⟨rfl,rfl⟩|exact .inl ⟨_,_,_,_,rfl,rfl⟩
theorem Vf6{P:Program}{o:Oper}(l:List Operand)(r:List TypeId):(∃y t,l=[y]/\r=[t])\/Lf3 P o l r=.bad:=by
 rcases l with _|⟨y,_|⟨_,_⟩⟩<;>rcases r with _|⟨t,_|⟨_,_⟩⟩<;>first|exact .inr rfl|exact .inl ⟨_,_,rfl,rfl⟩
set_option maxHeartbeats 1000000 in
theorem af1(hA:Fa4 ρ H F w a ac.tmps)(hH:F5 W ρ H F w)(hG:GOk E F w)(hcalls:∀f,g9 E.P E.G f (E.call f))
  (he:(evalOp E a H (cOp E.P o)).run=some (x,H')):j5 E.P o ac w (S4 W ρ H F w x H'):=by
 have hgen:(∀cs b,o.op≠.select cs b)->(evalOp E a H (Hc0 o)).run=some (x,H')->j5 E.P o ac w (S4 W ρ H F w x H'):=λhs h=>xe6 hA hH hG hs h
 unfold cOp at he;cases ho:o.op with
 |move y=>simp only[ho] at he;exact fe8 hA hH hG (.inl ho) he
 |assign y=>simp only[ho] at he;exact fe8 hA hH hG (.inr ho) he
 |nilCheck y=>simp only[ho] at he;exact fe9 hA hH hG ho he
 |pick c y z=>simp only[ho] at he;exact we4 hA hH hG ho he
 |alloc t =>
  simp only[ho] at he;cases hz:zeT E.P t with
  |none=>simp only[hz] at he;exact l5 he
  |some z=>simp only[hz] at he;exact ge3 hH ho hz he
 |box t y=>simp only[ho] at he;exact Pe7 hA hH hG ho he
 |build t ps =>
  simp only[ho] at he;cases hz:zeT E.P t with
  |none=>simp only[hz] at he;exact l5 he
  |some z =>
  simp only[hz] at he;cases hc:nb8 E.P t ps.toList with
  |none=>simp only[hc] at he;exact l5 he
  |some l =>
  simp only[hc] at he
  split at he
  ·rename_i hall;exact ge7 hA hH hG ho hz hc hall he
  ·exact l5 he
 |buildSlice t n ps =>
  simp only[ho] at he;cases hu:E.P.underlying t with
  |none=>simp only[hu] at he;exact l5 he
  |some u =>
  cases u with
  |slice e =>
   simp only[hu] at he;cases hz:zeT E.P e with
   |none=>simp only[hz] at he;exact l5 he
   |some z =>
   simp only[hz] at he;cases hc:nb8 E.P t ps.toList with
   |none=>simp only[hc] at he;exact l5 he
   |some l =>
   simp only[hc] at he
   split at he
   ·rename_i hcond;simp only[Qcf] at hcond;exact Ud5 hA hH hG ho hu hz hc (Qco hcond.1.1) (Qch hcond.1.2) (Qco hcond.2) he
   ·exact l5 he
  |_=>simp only[hu] at he;exact l5 he
 |load t y =>
  simp only[ho] at he;cases hu:E.P.underlying t with
  |none=>simp only[hu] at he;exact l5 he
  |some u=>simp only[hu] at he;exact we7 hA hH hG ho (by rw[hu];simp) he
 |store t y z =>
  simp only[ho] at he
  split at he
  ·exact l5 he
  ·rename_i h0;exact ge4 hA hH hG ho (λh=>h0 (by rw[h];rfl)) he
 |fieldAddr s y f =>
  simp only[ho] at he;cases hu:E.P.underlying s with
  |none=>simp only[hu] at he;exact l5 he
  |some u =>
  cases u with
  |struct fs =>
   simp only[hu] at he;cases hf:fs[f]? with
   |none=>simp only[hf] at he;exact l5 he
   |some fd =>
   simp only[hf] at he
   split at he
   ·exact l5 he
   ·rename_i h0;exact Pe4 hA hH hG ho hu hf (λh=>h0 (by rw[h];rfl)) he
  |_=>simp only[hu] at he;exact l5 he
 |indexAddr t y z =>
  simp only[ho] at he;cases hu:E.P.underlying t with
  |none=>simp only[hu] at he;exact l5 he
  |some u =>
  cases u with
  |array n e =>
   simp only[hu] at he
   split at he
   ·rename_i hi;obtain⟨ei,hei⟩:=Qcl.1 hi;exact we5 hA hH hG ho hu hei he
   ·exact l5 he
  |slice e =>
   simp only[hu] at he
   split at he
   ·rename_i hi;obtain⟨ei,hei⟩:=Qcl.1 hi;exact we6 hA hH hG ho hu hei he
   ·exact l5 he
  |_=>simp only[hu] at he;exact l5 he
 |slice t y lo hi mx =>
  simp only[ho] at he;cases hu:E.P.underlying t with
  |none=>simp only[hu] at he;exact l5 he
  |some u =>
  cases u with
  |slice e =>
   cases mx with
   |some _=>simp only[hu] at he;exact l5 he
   |none =>
   simp only[hu] at he
   split at he
   ·rename_i hi;obtain⟨ei,hei⟩:=Qcl.1 hi;exact he3 hA hH hG ho hu hei he
   ·exact l5 he
  |array n e =>
   cases mx with
   |some _=>simp only[hu] at he;exact l5 he
   |none =>
   cases lo with
   |some _=>simp only[hu] at he;exact l5 he
   |none =>
   cases hi with
   |some _=>simp only[hu] at he;exact l5 he
   |none =>
   simp only[hu] at he
   split at he
   ·rename_i hi;rw[Qcf,Qcf,Qcv,Qcv] at hi;obtain⟨ei,hei⟩:=Qcl.1 hi.1;exact Pe9 hA hH hG ho hu hei hi.2.1 hi.2.2 he
   ·exact l5 he
  |string =>
   cases mx with
   |some _=>simp only[hu] at he;exact l5 he
   |none=>simp only[hu] at he;exact hgen (λcs b e=>by rw[ho] at e;cases e) he
  |_=>simp only[hu] at he;exact l5 he
 |makeSlice t l c =>
  simp only[ho] at he;cases hu:E.P.underlying t with
  |none=>simp only[hu] at he;exact l5 he
  |some u =>
  cases u with
  |slice e =>
   simp only[hu] at he;cases hz:zeT E.P e with
   |none=>simp only[hz] at he;exact l5 he
   |some z =>
   simp only[hz] at he
   split at he
   ·rename_i hcond;simp only[Qcf] at hcond;exact we9 hA hH hG ho hu hz (Qch hcond.1) (Qco hcond.2) he
   ·exact l5 he
  |_=>simp only[hu] at he;exact l5 he
 |makeFunc fr first caps =>
  cases fr with
  |func f =>
   simp only[ho] at he
   split at he
   ·rename_i hf
    split at he
    ·exact l5 he
    ·rename_i hlt;exact xe0 hA hH hG ho hf (Bool.eq_false_iff.2 hlt) he
   ·split at he
    ·rename_i hc;exact xe1 hA hH hG ho hc he
    ·exact l5 he
  |_=>simp only[ho] at he;exact l5 he
 |extract y i=>simp only[ho] at he;exact Pe3 hA hH hG ho he
 |field t y f =>
  simp only[ho] at he;cases hu:E.P.underlying t with
  |none=>simp only[hu] at he;exact l5 he
  |some u =>
  cases u with
  |struct fs =>
   simp only[hu] at he;cases hf:fs[f]? with
   |none=>simp only[hf] at he;exact l5 he
   |some fd =>
   simp only[hf] at he
   split at he
   ·rename_i hs;exact he5 hA hH hG ho hu hf hs he
   ·exact l5 he
  |_=>simp only[hu] at he;exact l5 he
 |index t y z =>
  simp only[ho] at he;cases hu:E.P.underlying t with
  |none=>simp only[hu] at he;exact l5 he
  |some u =>
  cases u with
  |array n e =>
   simp only[hu] at he
   split at he
   ·rename_i hs;exact he6 hA hH hG ho hu hs he
   ·exact l5 he
  |string=>simp only[hu] at he;exact xe2 hA hH hG ho hu he
  |_=>simp only[hu] at he;exact l5 he
 |binOp op t y z u0 =>
  have hg:(evalOp E a H (Hc0 o)).run=some (x,H')->j5 E.P o ac w (S4 W ρ H F w x H'):=hgen (λcs b e=>by rw[ho] at e;cases e)
  have hrest:(evalOp E a H (Lf1 E.P o op t y z)).run=some (x,H')->j5 E.P o ac w (S4 W ρ H F w x H'):=λhe=>by
   unfold Lf1 at he;cases op with
   |eql =>
    by_cases hag:agT E.P t=true
    ·simp only[hag,if_true] at he;cases hf:pa4 E.P 9 t with
     |none=>simp only[hf] at he;exact l5 he
     |some fl =>
     simp only[hf] at he;by_cases hgt:E.P.eqGuardType E.P.depth t=true
     ·simp only[hgt,if_true] at he;exact l5 he
     ·simp only[hgt,if_false] at he;exact Ld8 hA hH hG ho (.inl ⟨rfl,rfl⟩) hag hf (by simpa using hgt) he
    simp only[hag,if_false] at he;cases hts:hb6 o.op.operands.toList with
    |none=>simp only[hts] at he;exact l5 he
    |some ts=>simp only[hts] at he;exact Ld6 hA hH hG ho (.inl ⟨rfl,rfl⟩) hts he
   |neq =>
    by_cases hag:agT E.P t=true
    ·simp only[hag,if_true] at he;cases hf:pa4 E.P 9 t with
     |none=>simp only[hf] at he;exact l5 he
     |some fl =>
     simp only[hf] at he;by_cases hgt:E.P.eqGuardType E.P.depth t=true
     ·simp only[hgt,if_true] at he;exact l5 he
     ·simp only[hgt,if_false] at he;exact Ld8 hA hH hG ho (.inr ⟨rfl,rfl⟩) hag hf (by simpa using hgt) he
    simp only[hag,if_false] at he;cases hts:hb6 o.op.operands.toList with
    |none=>simp only[hts] at he;exact l5 he
    |some ts=>simp only[hts] at he;exact Ld6 hA hH hG ho (.inr ⟨rfl,rfl⟩) hts he
   |_=>exact hg he
  simp only[ho] at he;cases hu:E.P.underlying t with
  |none=>simp only[hu] at he;exact hrest he
  |some u =>
  cases u with
  |int k =>
   simp only[hu] at he;cases op<;>first | exact Pe2 hA hH hG ho he | exact hg he
  |_=>simp only[hu] at he;exact hrest he
 |unOp op t y =>
  have hg:(evalOp E a H (Hc0 o)).run=some (x,H')->j5 E.P o ac w (S4 W ρ H F w x H'):=hgen (λcs b e=>by rw[ho] at e;cases e)
  simp only[ho] at he;cases op with
  |not=>exact Pe0 hA hH hG ho he
  |neg =>
   cases hu:E.P.underlying t with
   |none=>simp only[hu] at he;exact hg he
   |some u =>
   cases u with
   |int k=>simp only[hu] at he;exact Pe1 hA hH hG ho he
   |_=>simp only[hu] at he;exact hg he
  |_=>exact hg he
 |call c =>
  have hg:(evalOp E a H (Hc0 o)).run=some (x,H')->j5 E.P o ac w (S4 W ρ H F w x H'):=hgen (λcs b e=>by rw[ho] at e;cases e)
  simp only[ho] at he;cases hc:c.callee with
  |value y =>
   simp only[hc] at he;cases y with
   |func f=>exact xe5 hA hH hG hcalls ho hc he
   |_=>exact ie2 hA hH hG hcalls ho hc he
  |invoke r m=>simp only[hc] at he;exact l5 he
  |builtin b =>
   simp only[hc] at he;cases b with
   |append =>
    rcases ic9 c.args.toList c.argTypes.toList with⟨s,y,t,u,h1,h2⟩|h
    ·rw[h1,h2] at he;simp only[Td8] at he;cases hu:E.P.underlying t with
     |none=>simp only[hu] at he;exact l5 he
     |some uu =>
     cases uu with
     |slice e =>
      simp only[hu] at he
      split at he
      ·rename_i hcond;simp only[Qcf,Qcy] at hcond;obtain⟨⟨⟨⟨c1,c2⟩,c3⟩,c4⟩,c5⟩:=hcond;have htu:=Qch c5;subst htu;obtain⟨ei,hei,hs,_⟩:=Nc7 (P:=E.P) (t:=e) (Nat.pos_iff_ne_zero.1 (Qco c1));have hb:byT E.P e=ei.bytes:=by simp[byT,hei]
       unfold Ze4 at c3;simp only[hei] at c3;cases hz:ei.zero with
       |none=>simp[hz] at c3
       |some zv =>
       simp only[hz] at c3;exact Ud3 hA hH hG ho hc (V5 h1) (V5 h2) hu hei hz (Qch c3) (hs ▸ Qco c1) (hb ▸ Qco c2) (Qcaj c4) he
      ·exact l5 he
     |_=>simp only[hu] at he;exact l5 he
    ·rw[h.1] at he;exact l5 he
   |copy =>
    rcases ic9 c.args.toList c.argTypes.toList with⟨s,y,t,u,h1,h2⟩|h
    ·rw[h1,h2] at he;simp only[Ze5] at he;cases hu:E.P.underlying t with
     |none=>simp only[hu] at he;exact l5 he
     |some uu =>
     cases uu with
     |slice e =>
      simp only[hu] at he
      split at he
      ·rename_i hi;obtain⟨ei,hei⟩:=Qcl.1 hi;exact we8 hA hH hG ho hc (V5 h1) (V5 h2) hu hei he
      ·exact l5 he
     |_=>simp only[hu] at he;exact l5 he
    ·rw[h.2] at he;exact l5 he
   |clear =>
    have he':(evalOp E a H (Lf2 E.P c.args.toList c.argTypes.toList)).run=some (x,H'):=he
    revert he'
    generalize hl1:c.args.toList=l1;generalize hl2:c.argTypes.toList=l2;intro he';unfold Lf2 at he'
    split at he'
    ·split at he'
     ·rename_i e hu
      split at he'
      ·rename_i z hz
       split at he'
       ·rename_i hp;exact Ld7 hA hH hG ho hc (V5 hl1) (V5 hl2) hu hz (by rwa [Qcv] at hp) he'
       ·exact l5 he'
      ·exact l5 he'
     ·exact l5 he'
    ·exact l5 he'
   |len =>
    rcases Vf6 c.args.toList c.argTypes.toList with⟨y,t,h1,h2⟩|h
    ·rw[h1,h2] at he;simp only[Lf3] at he;cases hu:E.P.underlying t with
     |none=>simp only[hu] at he;exact l5 he
     |some uu =>
     cases uu with
     |slice e=>simp only[hu] at he;exact Qe0 hA hH hG ho hc (V5 h1) (V5 h2) hu he
     |array n e=>simp only[hu] at he;exact Fd4 hH ho hc (V5 h1) (V5 h2) hu he
     |string=>simp only[hu] at he;exact xe3 hA hH hG ho hc (V5 h1) (V5 h2) hu he
     |_=>simp only[hu] at he;exact l5 he
    ·rw[h] at he;exact l5 he
   |max=>exact hg he
   |min=>exact hg he
   |_=>exact l5 he
 |convert t u y=>simp only[ho] at he;exact hgen (λcs b e=>by rw[ho] at e;cases e) he
 |makeInterface t y=>simp only[ho] at he;exact hgen (λcs b e=>by rw[ho] at e;cases e) he
 |typeAssert t y u b=>simp only[ho] at he;exact hgen (λcs b e=>by rw[ho] at e;cases e) he
 |_=>simp only[ho] at he;exact l5 he
theorem Nc8:∀{cs:List c7},Oa9 nc7 cs=true->freezeCells H cs=some (cs,H)
 |[],_=>rfl
 |c::cs,h=>by
  have e:Oa9 nc7 (c::cs)=Bool.rec false (Oa9 nc7 cs) (nc7 c):=rfl;rw[e] at h;cases hc:nc7 c with
  |false=>rw[hc] at h;cases h
  |true =>
   rw[hc] at h;have ih:=Nc8 h;have h1:freezeCell H c=some (c,H):=by
    unfold nc7 at hc;unfold freezeCell;cases c with
    |v u=>simp only at hc ⊢;rw[hc]
    |tree=>rfl
    |fn f caps=>cases caps with
     |nil=>rfl
     |cons=>cases hc
    |_=>cases hc
   simp only[freezeCells,h1,ih]
theorem ie3{po:PO}{blk:c8}{n:Nat}(hd:blk.dead=false)(hg:blk.g=0)(hb:∀{x:c7} {H':List c8},(evalOp E a H po).run=some (x,H')->j5 E.P o ac w (S4 W ρ H F w x H'))
  (hrun:(evalOp E a H po).run=some (.sl H.length 0 n 0,H++[blk])):j5 E.P o ac w (S4 W ρ H F w (ac4 blk 0 n) H):=by
 intro next Q hn;refine hb hrun next Q λx' w' ⟨ρ',F',a1,a2,a3⟩=>hn x' w' ?_
 have hN:(H++[blk])[H.length]?=some blk:=by simp
 obtain⟨F2,b1,b2,b3⟩:=a2.disown H.length blk hN hd;have hat:blkAt (H++[blk]) H.length 0=some blk:=by
  unfold blkAt;rw[E2,hN];simp[hd,hg]
 have htree:=Wc7 a2 hat a3 b1.more b3;have hlow:∀(id:Nat) b,H[id]?=some b->((H++[blk]).set H.length { blk with own:=false })[id]?=some b:=λid b h=>by
  have:=(Qcb.1 h).1
  rw[Qcd (by omega),Qcc this]
  exact h
 have hext:∀(id:Nat) b,H[id]?=some b->ρ' id=ρ id:=λid b h=>by
  obtain⟨b',h1,_,_,h4⟩:=a1.heap id b h;rw[Qcc (Qcb.1 h).1] at h1
  have:b'=b:=Qce (h1.symm.trans h)
  subst this;exact (h4 rfl).1
 refine⟨ρ',F2,⟨a1.ext,λid b h=>⟨b,h,rfl,Qcag _,λ_=>⟨hext id b h,rfl,Qcag _⟩⟩,λb o h=>b1.more b o (a1.more b o h),λb o h=>?_,λid b h hn=>absurd rfl (hn b h)⟩,?_,?_⟩
 ·rcases b1.new b o h with h|h
  ·exact a1.new b o h
  ·exact .inr h
 ·exact b2.pull (λid=>id) (λid b h hd=>⟨hlow id b h,rfl⟩) λ_ _ _ _ _ _ _ _ h=>h
 ·exact .val (.cell (.mem htree))
theorem Ud8{e es n:Nat}{z:List c7}{l:List (Nat×Nat×Arg)}(hb:∀{x:c7} {H':List c8},(evalOp E a H (.bslice e es n z l)).run=some (x,H')->j5 E.P o ac w (S4 W ρ H F w x H'))
  (he:(evalOp E a H (.tslice es n z l)).run=some (x,H')):j5 E.P o ac w (S4 W ρ H F w x H'):=by
 simp only[evalOp] at he;cases hf:ic8 z (o7 (λp=>(p.1,p.2.1,c9 E a p.2.2)) l) with
 |none=>rw[hf] at he;cases he
 |some cs =>
 rw[hf] at he
 simp only at he
 cases hp:Oa9 nc7 cs with
 |false=>rw[hp] at he;cases he
 |true =>
 rw[hp] at he;simp only[DT.run_ret] at he;injection he with he;injection he with e1 e2;subst e1 e2
 exact ie3 (blk:={ et:=e,es,elems:=Pa3 es n cs,own:=true,dead:=false,g:=0 }) rfl rfl hb (by simp only[evalOp,hf,Nc8 hp,DT.run_ret,n9,Ca7,I5])
theorem Qe4 {e es by' : Nat} {z : List c7} {y c : Arg} (hb : ∀ {x : c7} {H' : List c8}, (evalOp E a H (.mksl e es by' z y c)).run = some (x, H') → j5 E.P o ac w (S4 W ρ H F w x H'))
  (he:(evalOp E a H (.tmk es by' z y c)).run=some (x,H')):j5 E.P o ac w (S4 W ρ H F w x H'):=by
 simp only[evalOp] at he
 split at he
 ·rename_i n m h1 h2;obtain⟨h3,he⟩:=DT.run_guard_some he;simp only[DT.run_ret] at he;injection he with he;injection he with e1 e2;subst e1 e2
  refine ie3 (blk:={ et:=e,es,elems:=List.replicate n.toNat z,own:=true,dead:=false,g:=0 }) rfl rfl hb ?_;simp only[evalOp,h1,h2,DT.guard,DT.run_ite,h3,DT.run_ret,n9,Ca7,I5,if_true]
 ·cases he
theorem Xc1{ops:Array Oper}(hA:Fa4 ρ H F w a ac.tmps)(hH:F5 W ρ H F w)(hG:GOk E F w)(hcalls:∀f,g9 E.P E.G f (E.call f))
  (he:(evalOp E a H (Wb1 E.P ops o)).run=some (x,H')):j5 E.P o ac w (S4 W ρ H F w x H'):=by
 have hs:(evalOp E a H (cOp E.P o)).run=some (x,H')->j5 E.P o ac w (S4 W ρ H F w x H'):=λh=>af1 hA hH hG hcalls h
 unfold Wb1 at he
 split at he
 ·rename_i c ho
  split at he
  ·rename_i hcb
   revert he
   generalize hl1:c.args.toList=l1;generalize hl2:c.argTypes.toList=l2;intro he;unfold Vf4 at he
   split at he
   ·rename_i s y t u
    split at he
    ·rename_i e hu
     split at he
     ·rename_i hc;simp only[Qcf,Qcv] at hc;have htu:=Qch hc.2.2;subst htu;obtain⟨ti,hi,hi0,hi1⟩:=Nc7 (Nat.ne_of_gt hc.2.1);exact sd2 (y:=.tmp s) hA hH hG ho hcb (V5 hl1) (V5 hl2) hu hi (by omega) he
     ·exact hs he
    ·exact hs he
   ·exact hs he
  ·exact hs he
 ·exact hs he
theorem Md3{ops:Array Oper}(tr:Nat)(hA:Fa4 ρ H F w a ac.tmps)(hH:F5 W ρ H F w)(hG:GOk E F w)(hcalls:∀f,g9 E.P E.G f (E.call f))
  (he:(evalOp E a H (Gb0 tr (Wb1 E.P ops o))).run=some (x,H')):j5 E.P o ac w (S4 W ρ H F w x H'):=by
 have hs:∀{x:c7} {H':List c8},(evalOp E a H (Wb1 E.P ops o)).run=some (x,H')->j5 E.P o ac w (S4 W ρ H F w x H'):=λh=>Xc1 hA hH hG hcalls h
 revert hs he
 generalize Wb1 E.P ops o=q;intro he hs;cases q with
 |bslice e es n z l =>
  simp only[Gb0] at he
  split at he
  ·exact hs he
  ·exact Ud8 hs he
 |mksl e es bb z l c =>
  simp only[Gb0] at he
  split at he
  ·exact hs he
  ·exact Qe4 hs he
 |asl n es y =>
  simp only[Gb0,evalOp] at he;cases he
 |_=>exact hs he
end
section
variable{W:Nat->Prop}{ρ ρ0:Rho}{H H0 H2:List c8}{F F0:Fz}{w w0:World}{k:Nat}{roots:List Nat}
structure TOk(k:Nat)(roots:List Nat):Prop where
 nodup:roots.Nodup
 first:∀i,i<k->roots[i]?=some i
def TLe(r s:List Nat):Prop:=∀(i:Nat) y,r[i]?=some y->s[i]?=some y
theorem TLe.refl(r:List Nat):TLe r r:=λ_ _ h=>h
theorem TLe.trans{r s t:List Nat}(h:TLe r s)(k:TLe s t):TLe r t:=λi y hy=>k i y (h i y hy)
theorem TOk.start(k:Nat):TOk k (List.range k):=⟨List.nodup_range,λi hi=>by rw[List.getElem?_range hi]⟩
theorem TOk.idx{id j:Nat}{r:List Nat}(hr:TOk k roots)(h:Pa4 roots id=(j,r)):TOk k r/\TLe roots r/\r[j]?=some id:=by
 obtain⟨h1,h2,h3,_⟩:=sd7 hr.nodup h;exact⟨⟨h2,λi hi=>h3 i i (hr.first i hi)⟩,h3,h1⟩
def gAt(k j g:Nat):Nat:=match Nat.blt j k with | true=>g | false=>0
inductive TC (k:Nat) (H:List c8) (r:List Nat):c7->c7->Prop
 |unk (x:c7):TC k H r x .unk
 |ptr (id i c g j:Nat) (b:c8) (hb:blkAt H id g=some b) (hj:r[j]?=some id):TC k H r (.ptr id i c g) (.ptr j i c (gAt k j g))
 |sl (id off n g j:Nat) (b:c8) (hb:blkAt H id g=some b) (hj:r[j]?=some id):TC k H r (.sl id off n g) (.sl j off n (gAt k j g))
 |same (x:c7) (h:match x with | .ptr .. | .sl ..=>False | _=>True):TC k H r x x
inductive TV (k:Nat) (H:List c8) (r:List Nat):c7->c7->Prop
 |cell {x z:c7} (hx:Ud7 x=true) (h:TC k H r x z):TV k H r x z
 |agg (cs ds:List c7) (hl:ds.length=cs.length) (h:∀(i:Nat) x z,cs[i]?=some x->ds[i]?=some z->TC k H r x z):TV k H r (.agg cs) (.agg ds)
 |fn (f:FuncId) (cs ds:List c7) (hl:ds.length=cs.length) (h:∀(i:Nat) x z,cs[i]?=some x->ds[i]?=some z->TC k H r x z):TV k H r (.fn f cs) (.fn f ds)
 |tup (l:List c7):TV k H r (.tup l) (.tup l)
inductive TW (k:Nat) (H:List c8) (r:List Nat):c7->c7->Prop
 |val {x z:c7} (hx:∀l,x≠.tup l) (h:TV k H r x z):TW k H r x z
 |tup (cs ds:List c7) (hl:ds.length=cs.length) (h:∀(i:Nat) x z,cs[i]?=some x->ds[i]?=some z->TV k H r x z):TW k H r (.tup cs) (.tup ds)
theorem TC.le{r s:List Nat}{x z:c7}(h:TC k H r x z)(hle:TLe r s):TC k H s x z:=by
 cases h with
 |unk x=>exact .unk x
 |ptr id i c g j b hb hj=>exact .ptr id i c g j b hb (hle _ _ hj)
 |sl id off n g j b hb hj=>exact .sl id off n g j b hb (hle _ _ hj)
 |same x h=>exact .same x h
theorem TV.le{r s:List Nat}{x z:c7}(h:TV k H r x z)(hle:TLe r s):TV k H s x z:=by
 cases h with
 |cell hx h=>exact .cell hx (h.le hle)
 |agg cs ds hl h=>exact .agg cs ds hl λi x z hx hz=>(h i x z hx hz).le hle
 |fn f cs ds hl h=>exact .fn f cs ds hl λi x z hx hz=>(h i x z hx hz).le hle
 |tup l=>exact .tup l
theorem TW.le{r s:List Nat}{x z:c7}(h:TW k H r x z)(hle:TLe r s):TW k H s x z:=by
 cases h with
 |val hx h=>exact .val hx (h.le hle)
 |tup cs ds hl h=>exact .tup cs ds hl λi x z hx hz=>(h i x z hx hz).le hle
theorem ie4{x z:c7}{r:List Nat}(hr:TOk k roots)(h:rd3 k H roots x=(z,r)):TOk k r/\TLe roots r/\TC k H r x z:=by
 have hsame:∀{y:c7},(y,roots)=(z,r)->TC k H roots x y->TOk k r/\TLe roots r/\TC k H r x z:=λ{y} e hc=>by
  injection e with e1 e2;subst e1 e2;exact⟨hr,.refl _,hc⟩
 unfold rd3 at h;cases x with
 |ptr id i c g =>
  simp only at h
  cases hb:blkAt H id g with
  |none=>simp only[hb] at h;exact hsame h (.unk _)
  |some b =>
   simp only[hb] at h;cases hi:Pa4 roots id with
   |mk j r2 =>
    simp only[hi] at h;injection h with e1 e2;subst e1 e2;obtain⟨h1,h2,h3⟩:=hr.idx hi;exact⟨h1,h2,.ptr id i c g j b hb h3⟩
 |sl id off n g =>
  simp only at h
  cases hb:blkAt H id g with
  |none=>simp only[hb] at h;exact hsame h (.unk _)
  |some b =>
   simp only[hb] at h;cases hi:Pa4 roots id with
   |mk j r2 =>
    simp only[hi] at h;injection h with e1 e2;subst e1 e2;obtain⟨h1,h2,h3⟩:=hr.idx hi;exact⟨h1,h2,.sl id off n g j b hb h3⟩
 |_=>exact hsame h (.same _ trivial)
theorem sd9:∀{l z:List c7} {roots r:List Nat},TOk k roots->Mc6 k H l roots=(z,r)->TOk k r/\TLe roots r/\z.length=l.length/\∀(i:Nat) x y,l[i]?=some x->z[i]?=some y->TC k H r x y
 |[],z,roots,r,hr,h=>by
  simp only[Mc6] at h;injection h with e1 e2;subst e1 e2;exact⟨hr,.refl _,rfl,λi x y hx=>by simp at hx⟩
 |x::l,z,roots,r,hr,h=>by
  simp only[Mc6] at h;cases h1:rd3 k H roots x with
  |mk y r1 =>
  simp only[h1] at h;cases h2:Mc6 k H l r1 with
  |mk l2 r2 =>
  simp only[h2] at h;injection h with e1 e2;subst e1 e2;obtain⟨a1,a2,a3⟩:=ie4 hr h1;obtain⟨b1,b2,b3,b4⟩:=sd9 a1 h2;refine⟨b1,a2.trans b2,by simp[b3],λi u v hu hv=>?_⟩
  cases i with
  |zero=>simp at hu hv;subst hu hv;exact a3.le b2
  |succ i=>exact b4 i u v (by simpa using hu) (by simpa using hv)
theorem Md4{x z:c7}{r:List Nat}(hr:TOk k roots)(h:nc8 k H roots x=(z,r)):TOk k r/\TLe roots r/\TV k H r x z:=by
 have h1:∀(hx:Ud7 x=true),rd3 k H roots x=(z,r)->TOk k r/\TLe roots r/\TV k H r x z:=λhx h=>by
  obtain⟨a1,a2,a3⟩:=ie4 hr h;exact⟨a1,a2,.cell hx a3⟩
 cases x with
 |fn f caps =>
  simp only[nc8] at h;cases h2:Mc6 k H caps roots with
  |mk l r2 =>
  simp only[h2] at h;injection h with e1 e2;subst e1 e2;obtain⟨b1,b2,b3,b4⟩:=sd9 hr h2;exact⟨b1,b2,.fn f caps l b3 b4⟩
 |agg caps =>
  simp only[nc8] at h;cases h2:Mc6 k H caps roots with
  |mk l r2 =>
  simp only[h2] at h;injection h with e1 e2;subst e1 e2;obtain⟨b1,b2,b3,b4⟩:=sd9 hr h2;exact⟨b1,b2,.agg caps l b3 b4⟩
 |tup l =>
  simp only[nc8,rd3] at h;injection h with e1 e2;subst e1 e2;exact⟨hr,.refl _,.tup l⟩
 |_=>exact h1 rfl h
theorem Md5:∀{l z:List c7} {roots r:List Nat},TOk k roots->Gc7 k H l roots=(z,r)->TOk k r/\TLe roots r/\z.length=l.length/\∀(i:Nat) x y,l[i]?=some x->z[i]?=some y->TV k H r x y
 |[],z,roots,r,hr,h=>by
  simp only[Gc7] at h;injection h with e1 e2;subst e1 e2;exact⟨hr,.refl _,rfl,λi x y hx=>by simp at hx⟩
 |x::l,z,roots,r,hr,h=>by
  simp only[Gc7] at h;cases h1:nc8 k H roots x with
  |mk y r1 =>
  simp only[h1] at h;cases h2:Gc7 k H l r1 with
  |mk l2 r2 =>
  simp only[h2] at h;injection h with e1 e2;subst e1 e2;obtain⟨a1,a2,a3⟩:=Md4 hr h1;obtain⟨b1,b2,b3,b4⟩:=Md5 a1 h2;refine⟨b1,a2.trans b2,by simp[b3],λi u v hu hv=>?_⟩
  cases i with
  |zero=>simp at hu hv;subst hu hv;exact a3.le b2
  |succ i=>exact b4 i u v (by simpa using hu) (by simpa using hv)
theorem td0{x z:c7}{r:List Nat}(hr:TOk k roots)(h:rd4 k H roots x=(z,r)):TOk k r/\TLe roots r/\TW k H r x z:=by
 have h1:(∀l,x≠.tup l)->nc8 k H roots x=(z,r)->TOk k r/\TLe roots r/\TW k H r x z:=λhx h=>by
  obtain⟨a1,a2,a3⟩:=Md4 hr h;exact⟨a1,a2,.val hx a3⟩
 cases x with
 |tup caps =>
  simp only[rd4] at h;cases h2:Gc7 k H caps roots with
  |mk l r2 =>
  simp only[h2] at h;injection h with e1 e2;subst e1 e2;obtain⟨b1,b2,b3,b4⟩:=Md5 hr h2;exact⟨b1,b2,.tup caps l b3 b4⟩
 |_=>exact h1 (λ_ e=>by cases e) h
theorem td1:∀{l z:List c7} {roots r:List Nat},TOk k roots->Mc7 k H l roots=(z,r)->TOk k r/\TLe roots r/\z.length=l.length/\∀(i:Nat) x y,l[i]?=some x->z[i]?=some y->TW k H r x y
 |[],z,roots,r,hr,h=>by
  simp only[Mc7] at h;injection h with e1 e2;subst e1 e2;exact⟨hr,.refl _,rfl,λi x y hx=>by simp at hx⟩
 |x::l,z,roots,r,hr,h=>by
  simp only[Mc7] at h;cases h1:rd4 k H roots x with
  |mk y r1 =>
  simp only[h1] at h;cases h2:Mc7 k H l r1 with
  |mk l2 r2 =>
  simp only[h2] at h;injection h with e1 e2;subst e1 e2;obtain⟨a1,a2,a3⟩:=td0 hr h1;obtain⟨b1,b2,b3,b4⟩:=td1 a1 h2;refine⟨b1,a2.trans b2,by simp[b3],λi u v hu hv=>?_⟩
  cases i with
  |zero=>simp at hu hv;subst hu hv;exact a3.le b2
  |succ i=>exact b4 i u v (by simpa using hu) (by simpa using hv)
def reG(k j:Nat)(b:c8):c8:=match Nat.blt j k with | true=>b | false=>{ b with g:=0 }
theorem oc7:∀{roots:List Nat} {j0:Nat} {H2:List c8},Za2 k H j0 roots=some H2->H2.length=roots.length/\∀(j:Nat) id,roots[j]?=some id->∃b,H[id]?=some b/\H2[j]?=some (reG k (j0+j) b)
 |[],j0,H2,h=>by
  simp only[Za2] at h;injection h with h;subst h;exact⟨rfl,λj id h=>by simp at h⟩
 |id::roots,j0,H2,h=>by
  simp only[Za2,E2] at h;cases hb:H[id]? with
  |none=>simp[hb] at h
  |some b =>
  simp only[hb] at h;cases hr:Za2 k H (j0+1) roots with
  |none=>simp[hr] at h
  |some l =>
  simp only[hr] at h;injection h with h;subst h
  obtain⟨h1,h2⟩:=oc7 hr;refine⟨by simp[h1],λj id' hj=>?_⟩
  cases j with
  |zero=>simp at hj;subst hj;exact⟨b,hb,rfl⟩
  |succ j =>
   obtain⟨b',k1,k2⟩:=h2 j id' (by simpa using hj)
   exact⟨b',k1,by rw[show j0+(j+1)=j0+1+j by omega];exact k2⟩
theorem Za3(j:Nat)(b:c8):(reG k j b).dead=b.dead:=by unfold reG;split<;>rfl
theorem Ud9(j:Nat)(b:c8):(reG k j b).own=b.own:=by unfold reG;split<;>rfl
theorem Gb6(j:Nat)(b:c8):(reG k j b).es=b.es:=by unfold reG;split<;>rfl
theorem eb5(j:Nat)(b:c8):(reG k j b).elems=b.elems:=by unfold reG;split<;>rfl
theorem Hc8(j:Nat)(b:c8):(reG k j b).et=b.et:=by unfold reG;split<;>rfl
theorem Ff7(j:Nat)(b:c8):(reG k j b).g=gAt k j b.g:=by unfold reG gAt;split<;>rfl
section
variable(hr:TOk k roots)(hH:F5 W ρ H F w)(hb:Za2 k H 0 roots=some H2)
include hb
theorem Nc9{j:Nat}{c:c8}(hc:H2[j]?=some c):∃id b,roots[j]?=some id/\(roots[j]?).getD 0=id/\H[id]?=some b/\c=reG k j b:=by
 obtain⟨hl,hat⟩:=oc7 hb;have hj:j<roots.length:=hl ▸ (Qcb.1 hc).1;have hg:=Qca hj;obtain⟨b,h1,h2⟩:=hat j _ hg;refine⟨_,b,hg,by simp[hg],h1,?_⟩
 rw[Qcac] at h2;exact Qce (hc.symm.trans h2)
include hr hH in
theorem yc4:F5 W (λj=>ρ ((roots[j]?).getD 0)) H2 F w:=by
 refine⟨λj c hc hd=>?_,λj j' c c' hc hc' hd hd' ho hne=>?_,hH.frz,hH.new⟩
 ·obtain⟨id,b,h1,h2,h3,h4⟩:=Nc9 hb hc;subst h4;rw[Za3] at hd;obtain⟨cc,t,fr,hB⟩:=hH.blk id b h3 hd;simp only[h2];exact⟨cc,t,fr,hB.obj,hB.room,by rw[eb5,Gb6];exact hB.len,by rw[eb5,Gb6];exact hB.rows,by rw[eb5,Gb6];exact hB.cell,by rw[Ud9,Hc8];exact hB.own,by rw[Ud9,eb5,Gb6];exact hB.kept⟩
 ·obtain⟨id,b,h1,h2,h3,h4⟩:=Nc9 hb hc;obtain⟨id',b',h1',h2',h3',h4'⟩:=Nc9 hb hc';subst h4 h4';simp only[h2,h2'];rw[Za3] at hd hd';rw[Ud9] at ho;refine hH.apart id id' b b' h3 h3' hd hd' ho λe=>hne ?_
  subst e;obtain⟨a1,a2⟩:=Qcb.1 h1;obtain⟨b1,b2⟩:=Qcb.1 h1';exact (List.getElem_inj hr.nodup).1 (a2.trans b2.symm)
theorem yc5{x z:c7}{x':Value}(h:TC k H roots x z)(hx:ga3 ρ H F w x x'):ga3 (λj=>ρ ((roots[j]?).getD 0)) H2 F w z x':=by
 obtain⟨hl,hat⟩:=oc7 hb;cases h with
 |unk x=>exact .unk _
 |ptr id i c g j b hb1 hj =>
  obtain⟨hb2,hd2,hg2⟩:=C6 hb1;obtain⟨b',k1,k2⟩:=hat j id hj
  have:b'=b:=Qce (k1.symm.trans hb2)
  subst this;rw[Qcac] at k2;obtain⟨ad,b3,e,m1,m2,m3,m4⟩:=Va1 (.val (.cell hx))
  have:b3=b':=Qce (m1.symm.trans hb2)
  subst this;rw[e];refine .ptr j i c _ ad _ k2 (by rw[Za3];exact hd2) (by rw[Ff7,hg2];exact Qcag _) λ_=>?_
  rw[m4 hg2,Gb6];simp[hj]
 |sl id off n g j b hb1 hj =>
  obtain⟨hb2,hd2,hg2⟩:=C6 hb1;obtain⟨b',k1,k2⟩:=hat j id hj
  have:b'=b:=Qce (k1.symm.trans hb2)
  subst this;rw[Qcac] at k2;obtain⟨ad,cap,b3,e,m1,m2,m3,m4,m5,m6,m7⟩:=Ya5 (.val (.cell hx))
  have:b3=b':=Qce (m1.symm.trans hb2)
  subst this;rw[e];refine .sl j off n _ ad cap _ k2 (by rw[Za3];exact hd2) (by rw[Ff7,hg2];exact Qcag _) m4 m5 m6 λ_=>?_
  have:=m7 hg2
  rw[Gb6,eb5];simpa [hj] using this
 |same x hs =>
  cases hx with
  |mem h=>exact .mem h
  |v=>exact .v _
  |ptr=>exact hs.elim
  |sl=>exact hs.elim
  |tptr cs a vs h1 h2 h3 h4=>exact .tptr cs a vs h1 h2 h3 h4
  |unk x'=>exact .unk _
theorem ie5{x z:c7}{x':Value}(h:TV k H roots x z)(hx:qa6 ρ H F w x x'):qa6 (λj=>ρ ((roots[j]?).getD 0)) H2 F w z x':=by
 cases h with
 |cell hbare h =>
  cases hx with
  |cell hx=>exact .cell (yc5 hb h hx)
  |_=>cases hbare
 |agg cs ds hl h =>
  obtain⟨vs,e,hl2,h2⟩:=Ga0 (.val hx);rw[e];refine .agg ds vs (hl.trans hl2) λi y y' hy hy'=>?_
  have hi:i<cs.length:=hl ▸ (Qcb.1 hy).1;exact yc5 hb (h i _ y (Qca hi) hy) (h2 i _ y' (Qca hi) hy')
 |fn f cs ds hl h =>
  obtain⟨vs,e,hl2,h2⟩:=Rb7 (.val hx);rw[e];refine .fn f ds vs (hl.trans hl2) λi y y' hy hy'=>?_
  have hi:i<cs.length:=hl ▸ (Qcb.1 hy).1;exact yc5 hb (h i _ y (Qca hi) hy) (h2 i _ y' (Qca hi) hy')
 |tup l =>
  cases hx with
  |cell hx=>cases hx with
   |mem h=>cases h
theorem Vd0{x z:c7}{x':Value}(h:TW k H roots x z)(hx:J7 ρ H F w x x'):J7 (λj=>ρ ((roots[j]?).getD 0)) H2 F w z x':=by
 cases h with
 |val hnt h =>
  cases hx with
  |val hx=>exact .val (ie5 hb h hx)
  |tup cs vs hl h2=>exact absurd rfl (hnt cs)
 |tup cs ds hl h =>
  obtain⟨vs,e,hl2,h2⟩:=Ud1 hx;rw[e];refine .tup ds vs (hl.trans hl2) λi y y' hy hy'=>?_
  have hi:i<cs.length:=hl ▸ (Qcb.1 hy).1;exact ie5 hb (h i _ y (Qca hi) hy) (h2 i _ y' (Qca hi) hy')
end
end
section
variable{W:Nat->Prop}{ρ ρ0:Rho}{H H0:List c8}{F F0:Fz}{w w0:World}{E:Env}
def Inv(W:Nat->Prop)(ρ0:Rho)(H0:List c8)(F0:Fz)(w0:World)(s:St)(ac:Act)(w:World):Prop :=
 ac.defers=[]/\∃ρ F,Adv W ρ0 H0 F0 w0 ρ s.H F w/\F5 W ρ s.H F w/\Fa4 ρ s.H F w s.a ac.tmps
theorem yc6(a:List c7)(dst:Option Nat)(x:c7):putA a dst x=match dst with | some d=>a.set d x | none=>a:=by
 have:putA a dst x=Option.rec (motive:=λ_=>List c7) a (λd=>setAt a d x) dst:=rfl
 rw[this];cases dst with
 |none=>rfl
 |some d=>simp[E3]
theorem Fa4.putA{a:List c7}{ac:Act}(h:Fa4 ρ H F w a ac.tmps)(dst:Option Nat){x:c7}{x':Value}(hx:J7 ρ H F w x x'):Fa4 ρ H F w (Ev.putA a dst x) (ac.put dst x').tmps:=by
 rw[yc6];cases dst with
 |none=>exact h
 |some d=>exact h.put d hx
theorem A4{ac:Act}(dst:Option Nat)(x:Value):(ac.put dst x).defers=ac.defers:=by cases dst<;>rfl
theorem ie6{s:St}{n:Nat}{x:c7}(hx:x≠.unk)(h:c9 E s.a (.t n)=x):setAt s.a n x=s.a:=by
 rw[Cb0] at h;rw[E3]
 rcases Qcs n s.a.length with hlt|hge
 ·rw[Qca hlt] at h;simp only[Option.getD_some] at h;subst h;exact List.set_getElem_self hlt
 ·rw[Qcn hge] at h;exact absurd h.symm hx
theorem ed9 (s : St) (dst : Option Nat) (g : Nat × Bool) (hide : List Nat) (op : PO) : (gb6 E s ⟨dst, some g, hide, op⟩).run = (match c9 E s.a (.t g.1) with
   |.v (.bool b)=>.ite (match g.2 with | true=>b | false=>!b) (jd9 E s ⟨dst,some g,hide,op⟩) (.ret ⟨putA s.a dst (.v (.tuple #[])),s.H⟩)
   |.v (.tuple _)=>.ret ⟨putA s.a dst (.v (.tuple #[])),s.H⟩
   |_=>.fail:DT St).run:=by
 obtain⟨d,want⟩:=g
 have e : gb6 E s ⟨dst, some (d, want), hide, op⟩ = (match c9 E s.a (.t d) with
   | .v (.bool b) => Bool.rec (motive := fun _ => DT St)
     (.ite b (.ret ⟨putA (setAt s.a d (.v (.bool true))) dst (.v (.tuple #[])),s.H⟩) (jd9 E ⟨setAt s.a d (.v (.bool false)),s.H⟩ ⟨dst,some (d,want),hide,op⟩))
     (.ite b (jd9 E ⟨setAt s.a d (.v (.bool true)),s.H⟩ ⟨dst,some (d,want),hide,op⟩) (.ret ⟨putA (setAt s.a d (.v (.bool false))) dst (.v (.tuple #[])),s.H⟩)) want
   |.v (.tuple _)=>.ret ⟨putA s.a dst (.v (.tuple #[])),s.H⟩
   |_=>.fail):=rfl
 rw[e];have hk:∀b,c9 E s.a (.t d)=.v (.bool b)->setAt s.a d (.v (.bool b))=s.a:=λb h=>ie6 (E:=E) (by simp) h
 revert hk
 generalize c9 E s.a (.t d)=u;intro hk;cases u with
 |v x =>
  cases x with
  |bool b =>
   have:=hk b rfl
   cases want<;>cases b<;>simp only[DT.run_ite,this]<;>rfl
  |_=>rfl
 |_=>rfl
theorem bc0{ops:Array Oper}{tmps:Array Value}{j d:Nat}{oj:Oper}{b:Bool}(hj:ops[j]?=some oj)(hd:oj.dst=some d)(h:tmps[d]?=some (.bool b)):yielded ops tmps j=some b:=by
 simp[yielded,hj,hd,h]
theorem Rb9{ops:Array Oper}{tmps:Array Value}{j d:Nat}{oj:Oper}{vs:Array Value}(hj:ops[j]?=some oj)(hd:oj.dst=some d)(h:tmps[d]?=some (.tuple vs)):yielded ops tmps j=none:=by
 simp[yielded,hj,hd,h]
theorem fd0{ops:Array Oper}{o:Oper}{g:Option (Nat×Bool)}{hide:List Nat}{op:PO}{s s':St}{ac:Act}(hg:ja6 ops o=some g)(hA:Fa4 ρ H F w s.a ac.tmps)
  (he:(gb6 E s ⟨o.dst,g,hide,op⟩).run=some s') :
  (Region.wanted o (yielded ops ac.tmps)=true/\(jd9 E s ⟨o.dst,g,hide,op⟩).run=some s')\/(Region.wanted o (yielded ops ac.tmps)=false/\s'=⟨putA s.a o.dst (.v (.tuple #[])),s.H⟩):=by
 unfold ja6 at hg;unfold Region.wanted;cases hgo:o.guard with
 |none =>
  simp only[hgo] at hg ⊢;injection hg with hg;subst hg;exact .inl ⟨trivial,he⟩
 |some jw =>
  obtain⟨j,want⟩:=jw;simp only[hgo] at hg ⊢;cases hj:ops[j]? with
  |none=>simp[hj] at hg
  |some oj =>
  simp only[hj] at hg;cases hd:oj.dst with
  |none=>simp[hd] at hg
  |some d =>
  simp only[hd] at hg;injection hg with hg;subst hg;rw[ed9] at he;have hev:=Cb0 E s.a d;have hrel:∀v,c9 E s.a (.t d)=.v v->ac.tmps[d]?=some v:=λv hv=>by
   rw[hev] at hv
   rcases Qcs d s.a.length with hlt|hge
   ·rw[Qca hlt] at hv;have hlt':d<ac.tmps.size:=hA.1 ▸ hlt;have h1:=hA.2 d _ _ (Qca hlt) (Qck hlt');simp only[Option.getD_some] at hv;rw[hv] at h1;rw[Qck hlt',ga5 h1]
   ·rw[Qcn hge] at hv;cases hv
  revert he hrel
  generalize c9 E s.a (.t d)=u;intro he hrel
  split at he
  ·rename_i b;have hb:=hrel _ rfl;rw[bc0 hj hd hb]
   rcases DT.run_ite_some he with⟨h1,h2⟩|⟨h1,h2⟩
   ·refine .inl ⟨?_,h2⟩
    revert h1
    cases want<;>cases b<;>first | (intro _;rfl) | (intro h;cases h)
   ·refine .inr ⟨?_,?_⟩
    ·revert h1
     cases want<;>cases b<;>first | (intro _;rfl) | (intro h;cases h)
    ·simpa using h2.symm
  ·rename_i vs;have hb:=hrel _ rfl;rw[Rb9 hj hd hb];exact .inr ⟨rfl,by simpa using he.symm⟩
  ·cases he
theorem Md6{P:Program}{ops:Array Oper}{o:Oper}{r:List Oper}{l:List PI}(h:Bc4 P ops (o::r)=some l):∃g l',ja6 ops o=some g/\Bc4 P ops r=some l'/\l=⟨o.dst,g,[],Wb1 P ops o⟩::l':=by
 simp only[Bc4] at h;cases hg:ja6 ops o with
 |none=>simp[hg] at h
 |some g =>
 simp only[hg] at h;cases hl:Bc4 P ops r with
 |none=>simp[hl] at h
 |some l' =>
 simp only[hl] at h;injection h with h;exact⟨g,l',rfl,rfl,h.symm⟩
section
variable(hG0:GOk E F0 w0)(hcalls:∀f,g9 E.P E.G f (E.call f))
include hG0 hcalls
theorem af2{ops:Array Oper}{o:Oper}{g:Option (Nat×Bool)}{s s':St}{ac:Act}{i:Nat}{Q:Exit->Act->World->Prop}{K:Act->World->Prop}(hi:ops[i]?=some o)(hg:ja6 ops o=some g)
  (hI:Inv W ρ0 H0 F0 w0 s ac w) (he:(gb6 E s ⟨o.dst,g,[],Wb1 E.P ops o⟩).run=some s') (hK:∀ac' w',Inv W ρ0 H0 F0 w0 s' ac' w'->K ac' w'):wpOp E.P ops Q i K ac w:=by
 obtain⟨hd,ρ,F,hAdv,hH,hA⟩:=hI;unfold wpOp;simp only[hi]
 rcases fd0 hg hA he with⟨hw,he⟩|⟨hw,he⟩
 ·rw[if_pos hw];refine .inl ?_;unfold jd9 at he;obtain⟨⟨x,H'⟩,h1,h2⟩:=DT.run_bind_some he;have h1':(evalOp E s.a s.H (Wb1 E.P ops o)).run=some (x,H'):=h1;refine Xc1 hA hH (hG0.adv hAdv) hcalls h1' K Q λx' w' hp=>?_
  obtain⟨ρ',F',a1,a2,a3⟩:=hp;have h2':some (⟨putA s.a o.dst x,H'⟩:St)=some s':=h2;injection h2' with h2';subst h2';exact hK _ _ ⟨(A4 _ _).trans hd,ρ',F',hAdv.trans a1,a2,(hA.adv a1).putA o.dst a3⟩
 ·rw[if_neg (by simp[hw])]
  subst he;exact hK _ _ ⟨(A4 _ _).trans hd,ρ,F,hAdv,hH,hA.putA o.dst (.ofv _)⟩
theorem Md7{ops:Array Oper}{Q:Exit->Act->World->Prop}:∀(r:List Oper) (k:Nat) (l:List PI) (s s':St) (ac:Act) (w:World),ops.toList.drop k=r->Bc4 E.P ops r=some l->Inv W ρ0 H0 F0 w0 s ac w->(T2 E l s).run=some s' ->
  (∀ac' w',Inv W ρ0 H0 F0 w0 s' ac' w'->Q .normal ac' w')->wpOps E.P ops Q (List.range' k r.length) ac w
 |[],k,l,s,s',ac,w,hr,hl,hI,he,hQ=>by
  simp only[Bc4] at hl;injection hl with hl;subst hl;have he':some s=some s':=he;injection he' with he';subst he';exact hQ ac w hI
 |o::r,k,l,s,s',ac,w,hr,hl,hI,he,hQ=>by
  obtain⟨g,l',h1,h2,rfl⟩:=Md6 hl;have he':((gb6 E s ⟨o.dst,g,[],Wb1 E.P ops o⟩).bind (T2 E l')).run=some s':=he;obtain⟨s1,h3,h4⟩:=DT.run_bind_some he';have hi:ops[k]?=some o:=by
   have:(ops.toList.drop k)[0]?=some o:=by rw[hr];rfl
   simpa using this
  rw[show (o::r).length=r.length+1 from rfl,List.range'_succ,wpOps_cons]
  refine af2 hG0 hcalls hi h1 hI h3 λac' w' hI'=>?_
  refine Md7 r (k+1) l' s1 s' ac' w' ?_ h2 hI' h4 hQ;rw[<- List.drop_drop,hr];rfl
end
def toX:d8->Exit
 |.normal=>.normal
 |.exit id=>.exit id
 |.ret=>.ret
inductive V6 (P:Program):Code->PC->Prop
 |skip:V6 P .skip .skip
 |ops (id:Nat) (ops:Array Oper) (l:List PI) (h:Bc4 P ops ops.toList=some l):V6 P (.region id ops false) (.ops l)
 |draw (id:Nat) (ops:Array Oper) (dsts:List Nat) (asq l:List PI) (ps:List (PO×PO)) (h:Wa3 P ops=.draw dsts asq l ps):V6 P (.region id ops true) (.draw dsts asq l ps)
 |seq {a b:Code} {x y:PC} (ha:V6 P a x) (hb:V6 P b y):V6 P (.seq a b) (.seq x y)
 |cond (c:Operand) {a b:Code} {x y:PC} (ha:V6 P a x) (hb:V6 P b y):V6 P (.cond c a b) (.cond (i8 c) x y)
 |block (id:Nat) {a:Code} {x:PC} (ha:V6 P a x):V6 P (.block id a) (.block id x)
 |loop (keep:List Nat) {a:Code} {x:PC} (ha:V6 P a x):V6 P (.loop a) (.loop keep x)
 |scope {a:Code} {x:PC} (ha:V6 P a x):V6 P (.scope a) x
 |label (l:Nat):V6 P (.label l) .skip
 |exit (id:Nat):V6 P (.exit id) (.exit id)
 |ret:V6 P .ret .ret
 |bad (c:Code):V6 P c .bad
theorem tf6(P:Program):∀c:Code,V6 P c (Nc1 P c):=by
 intro c
 induction c with
 |skip=>exact .skip
 |region id ops d =>
  cases d with
  |false =>
   show V6 P _ (match Bc4 P ops ops.toList with | some l=>PC.ops l | none=>.bad)
   cases h:Bc4 P ops ops.toList with
   |none=>exact .bad _
   |some l=>exact .ops id ops l h
  |true =>
   show V6 P _ (Wa3 P ops);have hT:∀tr,(∃a b c d,hb7 tr P ops=.draw a b c d)\/hb7 tr P ops=.bad:=λtr=>by
    unfold hb7 rd7
    simp only
    split
    ·split
     ·exact .inl ⟨_,_,_,_,rfl⟩
     ·exact .inr rfl
    ·exact .inr rfl
   have hc:(∃a b c d,Wa3 P ops=.draw a b c d)\/Wa3 P ops=.bad:=by
    unfold Wa3
    rcases hT 0 with⟨a,b,c,d,h⟩|h
    ·rw[h];exact .inl ⟨_,_,_,_,rfl⟩
    ·rw[h]
     rcases hT 1 with⟨a,b,c,d,h⟩|h
     ·rw[h];exact .inl ⟨_,_,_,_,rfl⟩
     ·rw[h];exact hT 2
   rcases hc with⟨a,b,c,d,h⟩|h
   ·rw[h];exact .draw id ops a b c d h
   ·rw[h];exact .bad _
 |seq a b ha hb=>exact .seq ha hb
 |cond c a b ha hb=>exact .cond c ha hb
 |block id a ha=>exact .block id ha
 |loop a ha=>exact .loop _ ha
 |scope a ha=>exact .scope ha
 |label l=>exact .label l
 |exit id=>exact .exit id
 |ret=>exact .ret
 |_=>exact .bad _
theorem V6.note{P:Program}{c:Code}{x:PC}(h:V6 P c x)(n ret:Nat):∀(out:Nat) (ex:Nat->Nat),V6 P c (Ev.note n ret x out ex):=by
 induction h with
 |skip=>exact λ_ _=>.skip
 |ops id ops l h=>exact λ_ _=>.ops id ops l h
 |draw id ops dsts asq l ps h=>exact λ_ _=>.draw id ops dsts asq l ps h
 |seq ha hb iha ihb=>exact λout ex=>.seq (iha _ _) (ihb _ _)
 |cond c ha hb iha ihb=>exact λout ex=>.cond c (iha _ _) (ihb _ _)
 |block id ha ih=>exact λout ex=>.block id (ih _ _)
 |loop keep ha ih=>exact λout ex=>.loop _ (ih _ _)
 |scope ha ih=>exact λout ex=>.scope (ih out ex)
 |label l=>exact λ_ _=>.label l
 |exit id=>exact λ_ _=>.exit id
 |ret=>exact λ_ _=>.ret
 |bad c=>exact λ_ _=>.bad c
theorem Inv.keep{s:St}{ac:Act}{a:List c7}(h:Inv W ρ0 H0 F0 w0 s ac w)(ha:a.length=s.a.length)(hat:∀(i:Nat) x,a[i]?=some x->x=.unk\/s.a[i]?=some x):Inv W ρ0 H0 F0 w0 ⟨a,s.H⟩ ac w:=by
 obtain⟨hd,ρ,F,h1,h2,h3⟩:=h;refine⟨hd,ρ,F,h1,h2,ha.trans h3.1,λi x x' hx hx'=>?_⟩
 rcases hat i x hx with rfl|h
 ·exact .unk _
 ·exact h3.2 i x x' h hx'
theorem oc8(keep:List Nat):∀(l:List c7) (k:Nat),(W9 keep l k).length=l.length/\∀(i:Nat) x,(W9 keep l k)[i]?=some x->x=.unk\/l[i]?=some x
 |[],k=>⟨rfl,λi x h=>by simp[W9] at h⟩
 |y::l,k=>by
  obtain⟨h1,h2⟩:=oc8 keep l (k+1);have e:W9 keep (y::l) k=Bool.rec .unk y (tb1 k keep)::W9 keep l (k+1):=rfl;rw[e];refine⟨by simp[h1],λi x hx=>?_⟩
  cases i with
  |zero =>
   simp at hx
   subst hx;cases tb1 k keep
   ·exact .inl rfl
   ·exact .inr rfl
  |succ i=>exact h2 i x (by simpa using hx)
theorem Oc0{roots:List Nat}{H2:List c8}(hr:TOk H0.length roots)(hb:Za2 H0.length H 0 roots=some H2)(h:Adv W ρ0 H0 F0 w0 ρ H F w):Adv W ρ0 H0 F0 w0 (λj=>ρ ((roots[j]?).getD 0)) H2 F w:=by
 obtain⟨hl,hat⟩:=oc7 hb;refine⟨h.ext,λid b hid=>?_,h.more,h.new,λid b' hid hn=>?_⟩
 ·have hlt:=(Qcb.1 hid).1;obtain⟨b1,h1,h2,h3,h4⟩:=h.heap id b hid;have hroot:=hr.first id hlt;obtain⟨b2,k1,k2⟩:=hat id id hroot
  have:b2=b1:=Qce (k1.symm.trans h1)
  subst this;have hre:reG H0.length (0+id) b2=b2:=by
   rw[Qcac];unfold reG
   have:Nat.blt id H0.length=true:=by simpa [Qcv] using hlt
   rw[this]
  rw[hre] at k2;exact⟨b2,k2,h2,h3,λhg=>by simp only[hroot,Option.getD_some];exact h4 hg⟩
 ·obtain⟨id',b,h1,h2,h3,h4⟩:=Nc9 hb hid;simp only[h2];by_cases hlt:id<H0.length
  ·have hroot:=hr.first id hlt
   have:id'=id:=Qce (h1.symm.trans hroot)
   subst this;refine h.fresh id' b h3 λbb hbb hg=>hn bb hbb ?_
   rw[h4]
   have:Nat.blt id' H0.length=true:=by simpa [Qcv] using hlt
   simp only[reG,this];exact hg
  ·refine h.fresh id' b h3 λbb hbb _=>?_
   have hlt':=(Qcb.1 hbb).1;have hroot:=hr.first id' hlt';obtain⟨a1,a2⟩:=Qcb.1 h1;obtain⟨b1,b2⟩:=Qcb.1 hroot
   have:=(List.getElem_inj hr.nodup).1 (a2.trans b2.symm)
   omega
theorem Inv.tidy{s s':St}{ac:Act}(h:Inv W ρ0 H0 F0 w0 s ac w)(he:(Ev.tidy H0.length s).run=some s'):Inv W ρ0 H0 F0 w0 s' ac w:=by
 obtain⟨hd,ρ,F,h1,h2,h3⟩:=h;unfold Ev.tidy at he;cases ht:Mc7 H0.length s.H s.a (List.range H0.length) with
 |mk a roots =>
 simp only[ht] at he;cases hb:Za2 H0.length s.H 0 roots with
 |none=>simp[hb] at he
 |some H2 =>
 simp only[hb] at he;have he':some (⟨a,H2⟩:St)=some s':=he;injection he' with he';subst he';obtain⟨k1,_,k3,k4⟩:=td1 (TOk.start _) ht;refine⟨hd,_,F,Oc0 k1 hb h1,yc4 k1 h2 hb,k3.trans h3.1,λi x x' hx hx'=>?_⟩
 have hi:i<s.a.length:=k3 ▸ (Qcb.1 hx).1;exact Vd0 hb (k4 i _ x (Qca hi) hx) (h3.2 i _ x' (Qca hi) hx')
def xe7(E:Env):Prop:=∀(W:Nat->Prop) (ρ0:Rho) (H0:List c8) (F0:Fz) (w0:World),GOk E F0 w0 ->
 ∀(id:Nat) (ops:Array Oper) (dsts:List Nat) (asq l:List PI) (ps:List (PO×PO)),Wa3 E.P ops=.draw dsts asq l ps ->
 ∀(s x s' ),(P0 E H0.length (.draw dsts asq l ps) s).run=some (x,s')->∀(ac:Act) (w:World) (Q:Exit->Act->World->Prop),Inv W ρ0 H0 F0 w0 s ac w ->
 (∀ac' w',Inv W ρ0 H0 F0 w0 s' ac' w'->Q (toX x) ac' w')->(Code.region id ops true).wp E.P Q ac w
theorem td2{c:Code}{y:PC}{keep:List Nat} (ih:∀(s:St) (x:d8) (s':St),(P0 E H0.length y s).run=some (x,s')->∀(ac:Act) (w:World) (Q:Exit->Act->World->Prop),Inv W ρ0 H0 F0 w0 s ac w ->
  (∀ac' w',Inv W ρ0 H0 F0 w0 s' ac' w'->Q (toX x) ac' w')->c.wp E.P Q ac w) :
  ∀(n:Nat) (s:St) (x:d8) (s':St),(lc2 (λs=>tidy H0.length ⟨W9 keep s.a 0,s.H⟩) (P0 E H0.length y) n s).run=some (x,s')->∀(ac:Act) (w:World) (Q:Exit->Act->World->Prop),Inv W ρ0 H0 F0 w0 s ac w ->
  (∀ac' w',Inv W ρ0 H0 F0 w0 s' ac' w'->Q (toX x) ac' w')->Code.rounds E.P c Q n ac w
 |0,s,x,s',he,ac,w,Q,hI,hQ=>by cases he
 |n+1,s,x,s',he,ac,w,Q,hI,hQ=>by
  have he':((tidy H0.length ⟨W9 keep s.a 0,s.H⟩).bind λs=>(P0 E H0.length y s).bind λr =>
   d8.rec (motive:=λ_=>DT (d8×St)) (lc2 (λs=>tidy H0.length ⟨W9 keep s.a 0,s.H⟩) (P0 E H0.length y) n r.2) (λid=>.ret (.exit id,r.2)) (.ret (.ret,r.2)) r.1).run=some (x,s'):=he
  obtain⟨s1,h1,h2⟩:=DT.run_bind_some he';obtain⟨⟨x2,s2⟩,h3,h4⟩:=DT.run_bind_some h2;obtain⟨k1,k2⟩:=oc8 keep s.a 0;have hI1:=(hI.keep (a:=W9 keep s.a 0) k1 k2).tidy h1;rw[rounds_succ];refine ih s1 x2 s2 h3 ac w _ hI1 λac' w' hI2=>?_
  cases x2 with
  |normal=>exact td2 ih n s2 x s' h4 ac' w' Q hI2 hQ
  |exit id =>
   have h4':some (d8.exit id,s2)=some (x,s'):=h4;injection h4' with h4';injection h4' with e1 e2;subst e1 e2
   exact hQ _ _ hI2
  |ret =>
   have h4':some (d8.ret,s2)=some (x,s'):=h4;injection h4' with h4';injection h4' with e1 e2;subst e1 e2
   exact hQ _ _ hI2
section
variable(hG0:GOk E F0 w0)(hcalls:∀f,g9 E.P E.G f (E.call f))(hdraw:xe7 E)
include hG0 hcalls hdraw
theorem xe8{c:Code}{y:PC}(hc:V6 E.P c y):∀(s:St) (x:d8) (s':St),(P0 E H0.length y s).run=some (x,s')->∀(ac:Act) (w:World) (Q:Exit->Act->World->Prop),Inv W ρ0 H0 F0 w0 s ac w ->
  (∀ac' w',Inv W ρ0 H0 F0 w0 s' ac' w'->Q (toX x) ac' w')->c.wp E.P Q ac w:=by
 induction hc with
 |skip =>
  intro s x s' he ac w Q hI hQ;have he':some (d8.normal,s)=some (x,s'):=he;injection he' with he';injection he' with e1 e2;subst e1 e2
  exact wp_skip (hQ _ _ hI)
 |ops id ops l h =>
  intro s x s' he ac w Q hI hQ;have he':((T2 E l s).bind λs=>.ret (d8.normal,s)).run=some (x,s'):=he
  obtain⟨s1,h1,h2⟩:=DT.run_bind_some he';have h2':some (d8.normal,s1)=some (x,s'):=h2;injection h2' with h2';injection h2' with e1 e2;subst e1 e2
  refine wp_region ?_;rw[List.range_eq_range']
  have:=Md7 (Q:=Q) hG0 hcalls ops.toList 0 l s s1 ac w rfl h hI h1 hQ
  simpa using this
 |draw id ops dsts asq l ps h =>
  intro s x s' he ac w Q hI hQ;exact hdraw W ρ0 H0 F0 w0 hG0 id ops dsts asq l ps h s x s' he ac w Q hI hQ
 |seq ha hb iha ihb =>
  intro s x s' he ac w Q hI hQ;obtain⟨⟨x1,s1⟩,h1,h2⟩:=DT.run_bind_some he;refine wp_seq (iha s x1 s1 h1 ac w _ hI λac' w' hI'=>?_)
  cases x1 with
  |normal=>exact ihb s1 x s' h2 ac' w' Q hI' hQ
  |exit id =>
   have h2':some (d8.exit id,s1)=some (x,s'):=h2;injection h2' with h2';injection h2' with e1 e2;subst e1 e2
   exact hQ _ _ hI'
  |ret =>
   have h2':some (d8.ret,s1)=some (x,s'):=h2;injection h2' with h2';injection h2' with e1 e2;subst e1 e2
   exact hQ _ _ hI'
 | @cond c a b y z ha hb iha ihb =>
  intro s x s' he ac w Q hI hQ;have he':(match c9 E s.a (i8 c) with
   |.v (.bool b)=>DT.ite b (P0 E H0.length y s) (P0 E H0.length z s)
   |_=>DT.fail).run=some (x,s'):=he
  have hc:J7 _ _ _ _ (c9 E s.a (i8 c)) (ac.eval c):=o0 hI.2.choose_spec.choose_spec.2.2 (hG0.adv hI.2.choose_spec.choose_spec.1) c
  revert he' hc
  generalize c9 E s.a (i8 c)=u;intro he' hc
  split at he'
  ·rename_i b;have hb:=ga5 hc
   rcases DT.run_ite_some he' with⟨rfl,h⟩|⟨rfl,h⟩
   ·exact wp_cond_true hb (iha s x s' h ac w Q hI hQ)
   ·exact wp_cond_false hb (ihb s x s' h ac w Q hI hQ)
  ·cases he'
 | @block id a y ha ih =>
  intro s x s' he ac w Q hI hQ;obtain⟨⟨x1,s1⟩,h1,h2⟩:=DT.run_bind_some he;refine wp_block (ih s x1 s1 h1 ac w _ hI λac' w' hI'=>?_)
  cases x1 with
  |normal =>
   have h2':some (d8.normal,s1)=some (x,s'):=h2;injection h2' with h2';injection h2' with e1 e2;subst e1 e2
   exact hQ _ _ hI'
  |ret =>
   have h2':some (d8.ret,s1)=some (x,s'):=h2;injection h2' with h2';injection h2' with e1 e2;subst e1 e2
   exact hQ _ _ hI'
  |exit id' =>
   have h2':(Bool.rec (motive:=λ_=>DT (d8×St)) (.ret (.exit id',s1)) (.ret (.normal,s1)) (Nat.beq id' id)).run=some (x,s'):=h2
   show if id'=id then Q .normal ac' w' else Q (.exit id') ac' w'
   cases hb:Nat.beq id' id with
   |true =>
    rw[hb] at h2';have h3:some (d8.normal,s1)=some (x,s'):=h2';injection h3 with h3;injection h3 with e1 e2;subst e1 e2
    rw[if_pos (Qch hb)];exact hQ _ _ hI'
   |false =>
    rw[hb] at h2';have h3:some (d8.exit id',s1)=some (x,s'):=h2';injection h3 with h3;injection h3 with e1 e2;subst e1 e2
    rw[if_neg (Qcaj hb)];exact hQ _ _ hI'
 |loop keep ha ih =>
  intro s x s' he ac w Q hI hQ;exact wp_loop_rounds E.N (td2 ih E.N s x s' he ac w Q hI hQ)
 |scope ha ih =>
  intro s x s' he ac w Q hI hQ;refine wp_scope_straight (ih s x s' he ac w (Exit.noGoto Q) hI λac' w' hI'=>?_)
  have:=hQ ac' w' hI'
  cases x with
  |normal=>exact this
  |exit id=>exact this
  |ret=>exact this
 |label l =>
  intro s x s' he ac w Q hI hQ;have he':some (d8.normal,s)=some (x,s'):=he;injection he' with he';injection he' with e1 e2;subst e1 e2
  exact wp_label (hQ _ _ hI)
 |exit id =>
  intro s x s' he ac w Q hI hQ;have he':some (d8.exit id,s)=some (x,s'):=he;injection he' with he';injection he' with e1 e2;subst e1 e2
  exact wp_exit (hQ _ _ hI)
 |ret =>
  intro s x s' he ac w Q hI hQ;have he':some (d8.ret,s)=some (x,s'):=he;injection he' with he';injection he' with e1 e2;subst e1 e2
  exact wp_ret (hQ _ _ hI)
 |bad c =>
  intro s x s' he ac w Q hI hQ;cases he
end
end
section
variable{W:Nat->Prop}{ρ ρ0:Rho}{H H0:List c8}{F F0:Fz}{w w0:World}{E:Env}
theorem xe9{P:Program}{t:TypeId}{p z:c7}{p':Value}{cs:List c7}(hH:F5 W ρ H F w)(hy:J7 ρ H F w p p')(hu:P.underlying t≠none)(hl:Ev.loadCells H p (szT P t)=some cs)(h1:Rb4 (agT P t) cs=some z) :
  ∃ad z',p'=.pointer (some ad)/\(loadVar t ad).run P w=.ok z' w/\qa6 ρ H F w z z':=by
 obtain⟨ad,vs,e,hs,hcl,hvl,hw,hr⟩:=Dc8 hH hy hl;have hti:∃i,P.info? t=some i/\i.size=szT P t:=by
  cases hd:P.underlying t with
  |none=>exact absurd hd hu
  |some d=>exact tb2 hd
 obtain⟨ti,hi1,hi2⟩:=hti
 rcases xc7 h1 with⟨hag,rfl⟩|⟨hag,z',rfl,rfl⟩
 ·refine⟨ad,.agg vs.toArray,e,?_,.agg cs vs.toArray (by simp[hcl,hvl]) λi x x' hx hx'=>.mem (hr i x x' hx (by simpa using hx'))⟩
  have hlc:(Go.loadCells ad (szT P t)).run P w=.ok vs.toArray w:=by
   rw[<- hvl];refine run_loadCells_list (P:=P) w ad vs λj v hj=>?_
   have hj':j<szT P t:=by rw[<- hvl];exact (Qcb.1 hj).1
   rw[Z8 (hs (by omega))]
   exact hw j v hj
  simp[loadVar,nb9 hag,sizeOf,typeInfo,hi1,hi2,hlc]
 ·have h1:szT P t=1:=by simpa using hcl.symm
  have hv1:vs.length=1:=by omega
  obtain⟨v,rfl⟩:∃v,vs=[v]:=by
   match vs,hv1 with
   |[v],_=>exact⟨v,rfl⟩
  have hc:=hw 0 v rfl;have hsp:=hs (by omega)
  have hcell:w.cell? ad=some v:=by
   obtain⟨b,of,sp⟩:=ad
   simp at hsp
   subst hsp;simpa using hc
  exact⟨ad,v,e,by simp[loadVar,db4 hag hu,hcell],.cell (.mem (hr 0 _ v rfl rfl))⟩
def tf7(tmps:Array Value):ResultVar->Sem Value
 |.tmp t=>pure (tmps.getD t undef)
 |.cell a t=>do loadVar t (<- asAddr (tmps.getD a undef))
def td3(P:Program)(w:World)(tmps:Array Value)(r:ResultVar):Value :=
 match r with
 |.tmp t=>tmps.getD t undef
 |.cell a t=>match (do loadVar t (<- asAddr (tmps.getD a undef)):Sem Value).run P w with
  |.ok v _=>v
  |_=>undef
theorem Qe5{P:Program}{a:List c7}{tmps:Array Value}(hH:F5 W ρ H F w)(hA:Fa4 ρ H F w a tmps){r:ResultVar}(hr:fe7 P r=true){x:c7}(hx:xb1 a H (rd9 P r)=some x) :
  (tf7 tmps r).run P w=.ok (td3 P w tmps r) w/\qa6 ρ H F w x (td3 P w tmps r):=by
 have hat:∀{t:Nat} {y:c7},a[t]?=some y->J7 ρ H F w y (tmps.getD t undef):=λ{t y} hy=>by
  have hlt:=(Qcb.1 hy).1;have hlt':t<tmps.size:=hA.1 ▸ hlt
  have:=hA.2 t y _ hy (Qck hlt')
  simpa [Array.getD,hlt'] using this
 cases r with
 |tmp t =>
  simp only[rd9,xb1,E2] at hx;cases hy:a[t]? with
  |none=>simp[hy] at hx
  |some y =>
   rw[hy] at hx;have hxy:y=x/\∀l,y≠.tup l:=by
    cases y<;>first | (simp at hx;done) | (injection hx with hx;exact⟨hx,λ_ e=>by cases e⟩)
   obtain⟨rfl,hnt⟩:=hxy;refine⟨rfl,?_⟩;show qa6 ρ H F w y (tmps.getD t undef);have h:=hat hy
   revert h
   generalize tmps.getD t undef=u;intro h;cases h with
   |val h=>exact h
   |tup xs=>exact absurd rfl (hnt xs)
 |cell p t =>
  simp only[rd9,xb1,E2] at hx;cases hy:a[p]? with
  |none=>simp[hy] at hx
  |some y =>
  simp only[hy] at hx;cases hl:Ev.loadCells H y (szT P t) with
  |none=>simp[hl] at hx
  |some cs =>
  simp only[hl] at hx;have hu:P.underlying t≠none:=λh=>by simp[fe7,h] at hr
  obtain⟨ad,z',e,h1,h2⟩:=xe9 hH (hat hy) hu hl hx;have hrun:(do loadVar t (<- asAddr (tmps.getD p undef)):Sem Value).run P w=.ok z' w:=by
   rw[e];simp[asAddr,h1]
  have hv:td3 P w tmps (.cell p t)=z':=by
   simp only[td3,hrun]
  rw[hv];exact⟨hrun,h2⟩
theorem td4{fn:Func}{a:List c7}{tmps:Array Value}{P:Program}(hH:F5 W ρ H F w)(hA:Fa4 ρ H F w a tmps)(hr:fn.results.toList.all (fe7 P)=true){l:List c7}(hl:tb0 (xb1 a H) (fn.results.toList.map (rd9 P))=some l) :
  ∃v,(results fn tmps).run P w=.ok v w/\J7 ρ H F w (Rb6 l) v:=by
 obtain⟨hlen,hat⟩:=Ld1 hl;simp only[List.length_map,Array.length_toList] at hlen;have hone:∀(i:Nat) r,fn.results.toList[i]?=some r->∃x,l[i]?=some x/\(tf7 tmps r).run P w=.ok (td3 P w tmps r) w/\qa6 ρ H F w x (td3 P w tmps r):=λi r hri=>by
  obtain⟨x,h1,h2⟩:=hat i (rd9 P r) (by simp only[Qcx,hri,Option.map_some])
  exact⟨x,h2,Qe5 hH hA (Qcm.1 hr r (Qcg hri)) h1⟩
 have hm:(fn.results.mapM (tf7 tmps)).run P w=.ok (fn.results.map (td3 P w tmps)) w:=by
  refine Nc4 _ _ w fn.results λr hrm=>?_
  obtain⟨i,hi⟩:=List.getElem?_of_mem (Array.mem_toList_iff.2 hrm);obtain⟨x,_,h2,_⟩:=hone i r hi;exact h2
 have hrun:(results fn tmps).run P w=.ok (if h:(fn.results.map (td3 P w tmps)).size=1 then (fn.results.map (td3 P w tmps))[0] else .tuple (fn.results.map (td3 P w tmps))) w:=by
  have e : results fn tmps = (do
    let vs <- fn.results.mapM (tf7 tmps)
    pure (if h:vs.size=1 then vs[0] else .tuple vs)):=by
   unfold results;congr 1
  rw[e,Sem.run_bind,hm];rfl
 refine⟨_,hrun,?_⟩;by_cases h1:fn.results.size=1
 ·have hl1:l.length=1:=hlen.trans h1;obtain⟨x,rfl⟩:∃x,l=[x]:=by
   match l,hl1 with
   |[x],_=>exact⟨x,rfl⟩
  have hlt:0<fn.results.toList.length:=by simp[h1]
  obtain⟨x',k1,_,k3⟩:=hone 0 _ (Qca hlt)
  simp at k1
  subst k1;rw[dif_pos (by simpa using h1)]
  simp at k3 ⊢
  exact .val k3
 ·rw[dif_neg (by simpa using h1)]
  have e:Rb6 l=.tup l:=by
   match l,hlen with
   |[],_=>rfl
   |[x],h=>exact absurd h.symm h1
   |_::_::_,_=>rfl
  rw[e];refine .tup l _ (by simp[hlen]) λi x x' hx hx'=>?_
  have hi:i<fn.results.toList.length:=by
   have:=(Qcb.1 hx).1
   simpa [hlen] using this
  obtain⟨y,k1,_,k3⟩:=hone i _ (Qca hi)
  have:y=x:=Qce (k1.symm.trans hx)
  subst this
  have:x'=td3 P w tmps fn.results.toList[i]:=by
   simp only[Array.getElem?_map,Qcq] at hx';obtain⟨r,hr1,hr2⟩:=hx';rw[<- hr2];congr 1;have hr3:fn.results.toList[i]?=some r:=by simpa using hr1
   exact (Qce ((Qca hi).symm.trans hr3)).symm
  rw[this];exact k3
theorem af3{f:FuncId}{fn:Func}{pf:PFn}(hf:E.P.funcs[f]?=some fn)(hname:fn.name ≠ "runtime.NumGoroutine")(hc:e7 E.P fn=some pf)(hcalls:∀f,g9 E.P E.G f (E.call f))(hdraw:xe7 E) :
  g9 E.P E.G f (Wb0 E pf):=by
 intro args blks r out he W ρ F w args' hH hlen hargs hG;unfold e7 at hc;cases hb:fn.body with
 |none=>simp[hb] at hc
 |some c =>
 simp only[hb] at hc
 split at hc
 case isFalse=>cases hc
 rename_i hres;injection hc with hc;subst hc;refine⟨⟨fn,hf,by simp[hb],hname⟩,?_⟩
 unfold Wb0 at he;rw[n9,I5,n9] at he;obtain⟨⟨x,s1⟩,h1,h2⟩:=DT.run_bind_some he
 simp only at h2 h1
 refine calls_of_wp hf hb ?_;have hI:Inv W ρ blks F w ⟨args++List.replicate (fn.ntmps-args.length) (.v (.tuple #[])),blks⟩ { tmps:=args'.toArray++Array.replicate (fn.ntmps-args'.toArray.size) undef,defers:=[] } w:=by
  refine⟨rfl,ρ,F,.refl,hH,by simp[hlen],λi y y' hy hy'=>?_⟩
  simp only at hy hy'
  rcases Qcs i args.length with hi|hi
  ·rw[Qcc hi] at hy;rw[Array.getElem?_append_left (by simpa [<- hlen] using hi)] at hy'
   exact hargs i y y' hy (by simpa using hy')
  ·rw[Qci hi] at hy;rw[Array.getElem?_append_right (by simpa [<- hlen] using hi)] at hy'
   rw[List.getElem?_replicate] at hy;rw[Array.getElem?_replicate] at hy'
   split at hy
   ·split at hy'
    ·injection hy with hy;injection hy' with hy'
     subst hy hy';exact .ofv _
    ·cases hy'
   ·cases hy
 have hfin : ∀ (ac' : Act) (w' : World), Inv W ρ blks F w s1 ac' w' → (match x with | .exit _ => False | _ => True) → (match tb0 (xb1 s1.a s1.H) (fn.results.toList.map (rd9 E.P)) with
    |some l=>oc1 blks.length s1.H (Rb6 l)
    |none=>.fail).run=some (r,out)->ac'.defers=[]/\∃v,(results fn ac'.tmps).run E.P w'=.ok v w'/\∃r',Ending.returned v=.returned r'/\S4 W ρ blks F w r out r' w':=λac' w' hI' _ hr=>by
  obtain⟨hd,ρ1,F1,a1,a2,a3⟩:=hI';cases hm:tb0 (xb1 s1.a s1.H) (fn.results.toList.map (rd9 E.P)) with
  |none=>rw[hm] at hr;cases hr
  |some l =>
  rw[hm] at hr;obtain⟨v,k1,k2⟩:=td4 a2 a3 hres hm;refine⟨hd,v,k1,v,rfl,?_⟩;simp only[oc1] at hr;cases ht:rd4 blks.length s1.H (List.range blks.length) (Rb6 l) with
  |mk z roots =>
  simp only[ht] at hr;cases hb2:Za2 blks.length s1.H 0 roots with
  |none=>simp[hb2] at hr
  |some H2 =>
  simp only[hb2] at hr;have hr':some (z,H2)=some (r,out):=hr;injection hr' with hr';injection hr' with e1 e2;subst e1 e2
  obtain⟨m1,_,m3⟩:=td0 (TOk.start _) ht;exact⟨_,F1,Oc0 m1 hb2 a1,yc4 m1 a2 hb2,Vd0 hb2 m3 k2⟩
 refine xe8 hG hcalls hdraw ((tf6 E.P c).note _ _ _ _) _ x s1 h1 _ w _ hI λac' w' hI'=>?_
 cases x with
 |normal=>exact hfin ac' w' hI' trivial h2
 |ret=>exact hfin ac' w' hI' trivial h2
 |exit id=>cases h2
end
structure N6(D:Nat->Prop)(H10 H20 H1 H2:List c8):Prop where
 lenq:H1.length=H2.length
 same:∀id,¬ D id->H1[id]?=H2[id]?
 dead:∀(id:Nat) b,D id->H1[id]?=some b->b.dead=true
 at1:∀id,D id->H1[id]?=H10[id]?
 at2:∀id,D id->H2[id]?=H20[id]?
 bound:∀id,D id->id<H1.length
section
variable{D:Nat->Prop}{H10 H20 H1 H2:List c8}{E:Env}{a:List c7}
theorem N6.blkAt(h:N6 D H10 H20 H1 H2){id g:Nat}{b:c8}(hb:Ev.blkAt H1 id g=some b):¬ D id/\Ev.blkAt H2 id g=some b:=by
 obtain⟨h1,h2,h3⟩:=C6 hb;have hD:¬ D id:=λhD=>by rw[h.dead id b hD h1] at h2;cases h2
 refine⟨hD,?_⟩;have hs:=h.same id hD;unfold Ev.blkAt at hb ⊢;rw[E2] at hb ⊢;rw[<- hs];exact hb
theorem N6.setAt(h:N6 D H10 H20 H1 H2){id:Nat}(hD:¬ D id)(b:c8):N6 D H10 H20 (Ev.setAt H1 id b) (Ev.setAt H2 id b):=by
 rw[E3,E3];refine⟨by simp[h.lenq],λi hi=>?_,λi c hi hc=>?_,λi hi=>?_,λi hi=>?_,λi hi=>by simpa using h.bound i hi⟩
 ·by_cases e:id=i
  ·subst e
   rcases Qcs id H1.length with hl|hl
   ·rw[Qcj hl,Qcj (h.lenq ▸ hl)]
   ·rw[Qcn (by simpa using hl),Qcn (by simpa using h.lenq ▸ hl)]
  ·rw[Qcd e,Qcd e];exact h.same i hi
 all_goals
  have e:id≠i:=λe=>hD (e ▸ hi)
 ·rw[Qcd e] at hc;exact h.dead i c hi hc
 ·rw[Qcd e];exact h.at1 i hi
 ·rw[Qcd e];exact h.at2 i hi
theorem N6.app(h:N6 D H10 H20 H1 H2)(l:List c8):N6 D H10 H20 (Ev.app H1 l) (Ev.app H2 l):=by
 rw[I5,I5];refine⟨by simp[h.lenq],λi hi=>?_,λi c hi hc=>?_,λi hi=>?_,λi hi=>?_,λi hi=>by have:=h.bound i hi;simp;omega⟩
 ·rcases Qcs i H1.length with hl|hl
  ·rw[Qcc hl,Qcc (h.lenq ▸ hl)];exact h.same i hi
  ·rw[Qci hl,Qci (h.lenq ▸ hl),h.lenq]
 all_goals
  have hl:=h.bound i hi
 ·rw[Qcc hl] at hc;exact h.dead i c hi hc
 ·rw[Qcc hl];exact h.at1 i hi
 ·rw[Qcc (h.lenq ▸ hl)];exact h.at2 i hi
theorem N6.modAt(h:N6 D H10 H20 H1 H2){id:Nat}(hD:¬ D id)(f:c8->c8):N6 D H10 H20 (Ev.modAt H1 id f) (Ev.modAt H2 id f):=by
 have hs:=h.same id hD;unfold Ev.modAt;rw[E2,E2,<- hs];cases H1[id]? with
 |none=>exact h
 |some b=>exact h.setAt hD _
theorem N6.disown(h:N6 D H10 H20 H1 H2){id:Nat}(hD:¬ D id):N6 D H10 H20 (Ev.disown H1 id) (Ev.disown H2 id):=h.modAt hD _
theorem N6.freezeCell(h:N6 D H10 H20 H1 H2){x y:c7}{H1':List c8}(hf:Ev.freezeCell H1 x=some (y,H1')):∃H2',Ev.freezeCell H2 x=some (y,H2')/\N6 D H10 H20 H1' H2':=by
 unfold Ev.freezeCell at hf ⊢;cases x with
 |v u =>
  simp only at hf ⊢
  cases ho:Mc4 u with
  |false=>simp[ho] at hf
  |true =>
   simp only[ho] at hf ⊢;injection hf with hf;injection hf with e1 e2;subst e1 e2
   exact⟨_,rfl,h⟩
 |tree es n get =>
  simp only at hf ⊢
  injection hf with hf;injection hf with e1 e2;subst e1 e2
  exact⟨_,rfl,h⟩
 |fn f caps =>
  simp only at hf ⊢
  cases hb:Oa9 nc5 caps with
  |false=>simp[hb] at hf
  |true =>
   simp only[hb] at hf ⊢;injection hf with hf;injection hf with e1 e2;subst e1 e2
   exact⟨_,rfl,h⟩
 |sl id off n g =>
  simp only at hf ⊢
  cases hb:Ev.blkAt H1 id g with
  |none=>simp[hb] at hf
  |some b =>
   obtain⟨hD,hb2⟩:=h.blkAt hb;simp only[hb,hb2] at hf ⊢;injection hf with hf;injection hf with e1 e2;subst e1 e2
   exact⟨_,rfl,h.disown hD⟩
 |_=>cases hf
theorem N6.freezeCells:∀{H1 H2:List c8} {xs ys:List c7} {H1':List c8},N6 D H10 H20 H1 H2->Ev.freezeCells H1 xs=some (ys,H1')->∃H2',Ev.freezeCells H2 xs=some (ys,H2')/\N6 D H10 H20 H1' H2'
 |H1,H2,[],ys,H1',h,hf=>by
  simp only[Ev.freezeCells] at hf ⊢;injection hf with hf;injection hf with e1 e2;subst e1 e2
  exact⟨_,rfl,h⟩
 |H1,H2,x::xs,ys,H1',h,hf=>by
  simp only[Ev.freezeCells] at hf ⊢;cases h1:Ev.freezeCell H1 x with
  |none=>simp[h1] at hf
  |some yh =>
  obtain⟨y,Ha⟩:=yh;obtain⟨Hb,h2,h3⟩:=h.freezeCell h1;simp only[h1,h2] at hf ⊢;cases h4:Ev.freezeCells Ha xs with
  |none=>simp[h4] at hf
  |some lh =>
  obtain⟨l,Hc⟩:=lh;obtain⟨Hd,h5,h6⟩:=N6.freezeCells h3 h4;simp only[h4,h5] at hf ⊢;injection hf with hf;injection hf with e1 e2;subst e1 e2
  exact⟨_,rfl,h6⟩
theorem N6.elemsOf(h:N6 D H10 H20 H1 H2){es:Nat}{x:c7}{l:List (List c7)}(hf:Ev.elemsOf es H1 x=some l):Ev.elemsOf es H2 x=some l:=by
 unfold Ev.elemsOf at hf ⊢;cases x with
 |sl id off n g =>
  simp only at hf ⊢
  cases hb:Ev.blkAt H1 id g with
  |none=>simp[hb] at hf
  |some b =>
   obtain⟨_,hb2⟩:=h.blkAt hb;simp only[hb,hb2] at hf ⊢;exact hf
 |v u =>
  cases u with
  |slice ad n c=>cases ad<;>cases n<;>cases c<;>exact hf
  |_=>exact hf
 |_=>exact hf
theorem N6.capArg(h:N6 D H10 H20 H1 H2){p:Ma7}{x:c7}{r:c7×Ma7}(hf:Ev.capArg H1 p x=some r):Ev.capArg H2 p x=some r:=by
 unfold Ev.capArg at hf ⊢;cases x with
 |ptr id i c g =>
  simp only at hf ⊢
  cases hb:Ev.blkAt H1 id g with
  |none=>simp[hb] at hf
  |some b =>
   obtain⟨_,hb2⟩:=h.blkAt hb;simp only[hb,hb2] at hf ⊢;exact hf
 |sl id off n g =>
  simp only at hf ⊢
  cases hb:Ev.blkAt H1 id g with
  |none=>simp[hb] at hf
  |some b =>
   obtain⟨_,hb2⟩:=h.blkAt hb;simp only[hb,hb2] at hf ⊢;exact hf
 |fn f caps=>cases caps<;>exact hf
 |_=>exact hf
theorem N6.capArgs(h:N6 D H10 H20 H1 H2):∀{xs:List c7} {p:Ma7} {r:List c7×Ma7},Ev.capArgs H1 p xs=some r->Ev.capArgs H2 p xs=some r
 |[],p,r,hf=>hf
 |x::xs,p,r,hf=>by
  simp only[Ev.capArgs] at hf ⊢;cases h1:Ev.capArg H1 p x with
  |none=>simp[h1] at hf
  |some yq =>
  rw[h.capArg h1];simp only[h1] at hf ⊢;cases h2:Ev.capArgs H1 yq.2 xs with
  |none=>simp[h2] at hf
  |some lq =>
  rw[N6.capArgs h h2];simp only[h2] at hf ⊢;exact hf
theorem N6.prepArg(h:N6 D H10 H20 H1 H2){own:Bool}{p:Ma7}{x:c7}{r:c7×Ma7}(hf:Ev.prepArg H1 own p x=some r):Ev.prepArg H2 own p x=some r:=by
 unfold Ev.prepArg at hf ⊢;cases x with
 |v u=>exact hf
 |sl id off n g =>
  cases own with
  |false=>exact h.capArg hf
  |true =>
   simp only at hf ⊢
   cases hb:Ev.blkAt H1 id g with
   |none=>simp[hb] at hf
   |some b =>
    obtain⟨_,hb2⟩:=h.blkAt hb;simp only[hb,hb2] at hf ⊢;exact hf
 |agg cs =>
  simp only at hf ⊢
  cases h1:Ev.capArgs H1 p cs with
  |none=>simp[h1] at hf
  |some lq =>
  rw[h.capArgs h1];simp only[h1] at hf ⊢;exact hf
 |fn f cs =>
  simp only at hf ⊢
  cases h1:Ev.capArgs H1 p cs with
  |none=>simp[h1] at hf
  |some lq =>
  rw[h.capArgs h1];simp only[h1] at hf ⊢;exact hf
 |_=>exact h.capArg hf
theorem N6.prepArgs(h:N6 D H10 H20 H1 H2){own:Nat->Bool}:∀{xs:List c7} {p:Ma7} {k:Nat} {r:List c7×Ma7},Ev.prepArgs H1 own p k xs=some r->Ev.prepArgs H2 own p k xs=some r
 |[],p,k,r,hf=>hf
 |x::xs,p,k,r,hf=>by
  simp only[Ev.prepArgs] at hf ⊢;cases h1:Ev.prepArg H1 (own k) p x with
  |none=>simp[h1] at hf
  |some yq =>
  rw[h.prepArg h1];simp only[h1] at hf ⊢;cases h2:Ev.prepArgs H1 own yq.2 (k+1) xs with
  |none=>simp[h2] at hf
  |some lq =>
  rw[N6.prepArgs h h2];simp only[h2] at hf ⊢;exact hf
theorem N6.blksAt(h:N6 D H10 H20 H1 H2):∀{roots:List Nat} {r:List c8},(∀id∈roots,¬ D id)->Ev.blksAt H1 roots=some r->Ev.blksAt H2 roots=some r
 |[],r,_,hf=>hf
 |id::roots,r,hr,hf=>by
  simp only[Ev.blksAt,E2] at hf ⊢;rw[<- h.same id (hr id (by simp))]
  cases hb:H1[id]? with
  |none=>simp[hb] at hf
  |some b =>
  simp only[hb] at hf ⊢;cases h2:Ev.blksAt H1 roots with
  |none=>simp[h2] at hf
  |some l =>
  rw[h.blksAt (λi hi=>hr i (by simp[hi])) h2]
  simp only[h2] at hf ⊢;exact hf
theorem N6.putBack:∀{roots:List Nat} {H1 H2 out H1':List c8},N6 D H10 H20 H1 H2->(∀id∈roots,¬ D id)->Ev.putBack H1 roots out=some H1'->∃H2',Ev.putBack H2 roots out=some H2'/\N6 D H10 H20 H1' H2'
 |[],H1,H2,[],H1',h,_,hf=>by
  simp only[Ev.putBack] at hf ⊢;injection hf with hf;subst hf
  exact⟨_,rfl,h⟩
 |[],H1,H2,c::out,H1',h,_,hf=>by
  simp only[Ev.putBack] at hf ⊢;injection hf with hf;subst hf
  exact⟨_,rfl,h.app _⟩
 |id::roots,H1,H2,[],H1',h,_,hf=>by simp[Ev.putBack] at hf
 |id::roots,H1,H2,c::out,H1',h,hr,hf=>by
  simp only[Ev.putBack] at hf ⊢;exact N6.putBack (h.modAt (hr id (by simp)) _) (λi hi=>hr i (by simp[hi])) hf
theorem N6.settle(h:N6 D H10 H20 H1 H2)(held:Bool):∀{lent:List Nat},(∀id∈lent,¬ D id)->N6 D H10 H20 (Ev.settle lent held H1) (Ev.settle lent held H2)
 |[],_=>h
 |id::lent,hr=>by
  have ih:=N6.settle h held (lent:=lent) λi hi=>hr i (by simp[hi])
  rw[Ob7,Ob7];split
  ·exact ih.disown (hr id (by simp))
  ·exact ih
theorem N6.backId(h:N6 D H10 H20 H1 H2){roots:List Nat}(hr:∀id∈roots,¬ D id)(j g:Nat):Ev.backId H1 roots j g=Ev.backId H2 roots j g:=by
 unfold Ev.backId;rw[E2];cases hj:roots[j]? with
 |none=>simp only[n9,h.lenq]
 |some id=>simp only[E2,h.same id (hr id (Qcg hj))]
theorem N6.backC(h:N6 D H10 H20 H1 H2){roots:List Nat}(hr:∀id∈roots,¬ D id):Ev.backC H1 roots=Ev.backC H2 roots:=by
 funext x;cases x with
 |ptr=>simp only[Ev.backC,h.backId hr]
 |sl=>simp only[Ev.backC,h.backId hr]
 |_=>rfl
theorem N6.backVal1(h:N6 D H10 H20 H1 H2){roots:List Nat}(hr:∀id∈roots,¬ D id):Ev.backVal1 H1 roots=Ev.backVal1 H2 roots:=by
 funext x;unfold Ev.backVal1;rw[h.backC hr]
theorem N6.backVal(h:N6 D H10 H20 H1 H2){roots:List Nat}(hr:∀id∈roots,¬ D id):Ev.backVal H1 roots=Ev.backVal H2 roots:=by
 funext x;unfold Ev.backVal;rw[h.backVal1 hr]
theorem N6.callA(h:N6 D H10 H20 H1 H2){f:FuncId}{args:List c7}{x:c7}{H1':List c8}(he:(Ev.callA E f args H1).run=some (x,H1')):∃H2',(Ev.callA E f args H2).run=some (x,H2')/\N6 D H10 H20 H1' H2':=by
 unfold Ev.callA at he ⊢;cases hpr:Ev.prepArgs H1 (E.own f) { roots:=[],lent:=[] } 0 args with
 |none=>rw[hpr] at he;cases he
 |some q =>
 obtain⟨ic9,p⟩:=q;obtain⟨hp,_,hl2,hPr⟩:=oc6 (H:=H1) (p:={ roots:=[],lent:=[] }) ⟨List.nodup_nil,λid h=>by simp at h,λid h=>by simp at h⟩ hpr
 have hroots:∀id∈p.roots,¬ D id:=λid hid hD=>by
  obtain⟨b,h1,h2⟩:=hp.live id hid;rw[h.dead id b hD h1] at h2;cases h2
 have hlent:∀id∈p.lent,¬ D id:=λid hid hD=>by
  obtain⟨b,h1,h2⟩:=hp.lent id hid;rw[h.dead id b hD h1] at h2;cases h2
 rw[h.prepArgs hpr];rw[hpr] at he
 simp only at he ⊢
 cases hbl:Ev.blksAt H1 p.roots with
 |none=>rw[hbl] at he;cases he
 |some blks =>
 rw[h.blksAt hroots hbl];cases hap:Fb8 p.lent p.roots with
 |false=>rw[hbl,hap] at he;cases he
 |true =>
 rw[hbl,hap] at he
 simp only at he ⊢
 obtain⟨⟨r,out⟩,hc,he⟩:=DT.run_bind_some he
 simp only at he
 cases hpb:Ev.putBack H1 p.roots out with
 |none=>rw[hpb] at he;cases he
 |some H1b =>
 obtain⟨H2b,k1,k2⟩:=N6.putBack h hroots hpb;rw[hpb] at he
 simp only at he
 have he':some (Ev.backVal H1 p.roots r,Ev.settle p.lent (Ua9 r||out.any nc6) H1b)=some (x,H1'):=he
 injection he' with he';injection he' with e1 e2;subst e1 e2
 refine⟨Ev.settle p.lent (Ua9 r||out.any nc6) H2b,?_,k2.settle _ hlent⟩
 rw[DT.run_bind,hc];simp only[Option.bind_some,k1];rw[h.backVal hroots];rfl
theorem N6.appendA(h:N6 D H10 H20 H1 H2){et es bytes:Nat}{s y x:c7}{H1':List c8}(he:(Ev.appendA et es bytes s y H1).run=some (x,H1')):∃H2',(Ev.appendA et es bytes s y H2).run=some (x,H2')/\N6 D H10 H20 H1' H2':=by
 unfold Ev.appendA at he ⊢;cases hel:Ev.elemsOf es H1 y with
 |none=>rw[hel] at he;cases he
 |some news =>
 rw[h.elemsOf hel];rw[hel] at he
 simp only at he ⊢
 have hnil : ∀ {H1' : List c8}, (DT.ite (Nat.beq (len news) 0) (.ret (c7.v (.slice none 0 0), H1))
    (.guard (Nat.ble (len news*bytes) room) (.ret (.sl (len H1) 0 (len news) 0,Ca7 H1 et es news)))).run=some (x,H1') ->
   ∃H2',(DT.ite (Nat.beq (len news) 0) (.ret (c7.v (.slice none 0 0),H2))
    (.guard (Nat.ble (len news*bytes) room) (.ret (.sl (len H2) 0 (len news) 0,Ca7 H2 et es news)))).run=some (x,H2')/\N6 D H10 H20 H1' H2':=λ{H1'} he=>by
  rcases DT.run_ite_some he with⟨h1,h2⟩|⟨h1,h2⟩
  ·rw[h1];simp only[DT.run_ret] at h2;injection h2 with h2;injection h2 with e1 e2;subst e1 e2
   exact⟨_,rfl,h⟩
  ·obtain⟨h3,h4⟩:=DT.run_guard_some h2;rw[h1];simp only[DT.run_ret] at h4;injection h4 with h4;injection h4 with e1 e2;subst e1 e2
   have hl:len H2=len H1:=by rw[n9,n9,h.lenq]
   refine⟨Ca7 H2 et es news,?_,h.app _⟩;rw[hl];simp only[DT.run_ite,DT.guard,h3,DT.run_ret,if_true,Bool.false_eq_true,if_false]
 cases s with
 |v u =>
  cases u with
  |slice ad n c =>
   cases ad with
   |some _=>cases he
   |none =>
    cases n with
    |succ _=>cases he
    |zero =>
     cases c with
     |succ _=>cases he
     |zero=>exact hnil he
  |_=>cases he
 |sl id off n g =>
  simp only at he ⊢
  cases hb:Ev.blkAt H1 id g with
  |none=>rw[hb] at he;cases he
  |some b =>
  obtain⟨hD,hb2⟩:=h.blkAt hb;rw[hb] at he;rw[hb2]
  simp only at he ⊢
  split at he
  ·obtain⟨h3,h4⟩:=DT.run_guard_some he;simp only[DT.run_ret] at h4;injection h4 with h4;injection h4 with e1 e2;subst e1 e2
   refine⟨_,?_,h.setAt hD _⟩;simp only[DT.run_ite,DT.guard,h3,DT.run_ret,if_true]
  ·cases he
 |_=>cases he
theorem N6.copyA(h:N6 D H10 H20 H1 H2){es:Nat}{d s x:c7}{H1':List c8}(he:Ev.copyA es d s H1=some (x,H1')):∃H2',Ev.copyA es d s H2=some (x,H2')/\N6 D H10 H20 H1' H2':=by
 unfold Ev.copyA at he ⊢;cases d with
 |sl id off n g =>
  simp only at he ⊢
  cases hb:Ev.blkAt H1 id g with
  |none=>rw[hb] at he;cases he
  |some b =>
  obtain⟨hD,hb2⟩:=h.blkAt hb;rw[hb] at he;rw[hb2]
  simp only at he ⊢
  cases hel:Ev.elemsOf es H1 s with
  |none=>rw[hel] at he;cases he
  |some news =>
  rw[h.elemsOf hel];rw[hel] at he
  simp only at he ⊢
  split at he
  ·injection he with he;injection he with e1 e2;subst e1 e2
   exact⟨_,rfl,h.setAt hD _⟩
  ·cases he
 |_=>cases he
theorem N6.apreA(h:N6 D H10 H20 H1 H2){es:Nat}{d s x:c7}{H1':List c8}(he:(Ev.apreA es d s H1).run=some (x,H1')):∃H2',(Ev.apreA es d s H2).run=some (x,H2')/\N6 D H10 H20 H1' H2':=by
 unfold Ev.apreA at he ⊢;cases hel:Ev.elemsOf es H1 s with
 |none=>rw[hel] at he;cases he
 |some news =>
 rw[h.elemsOf hel];rw[hel] at he
 simp only at he ⊢
 split at he
 ·obtain⟨h0,he⟩:=DT.run_guard_some he;simp only[DT.run_ret] at he;injection he with he;injection he with e1 e2;subst e1 e2
  refine⟨H2,?_,h⟩;simp only[DT.guard,DT.run_ite,h0,DT.run_ret,if_true]
 ·rename_i id off n g;cases hb:Ev.blkAt H1 id g with
  |none=>rw[hb] at he;cases he
  |some b =>
  obtain⟨hD,hb2⟩:=h.blkAt hb;rw[hb] at he;rw[hb2]
  simp only at he ⊢
  split at he
  ·rename_i hc;obtain⟨h0,he⟩:=DT.run_guard_some he;simp only[DT.run_ret] at he;injection he with he;injection he with e1 e2;subst e1 e2
   refine⟨_,?_,h.setAt hD _⟩;simp only[hc,DT.guard,DT.run_ite,h0,DT.run_ret,if_true]
  ·cases he
 ·cases he
theorem N6.clrA(h:N6 D H10 H20 H1 H2){es:Nat}{z:List c7}{d x:c7}{H1':List c8}(he:Ev.clrA es z d H1=some (x,H1')):∃H2',Ev.clrA es z d H2=some (x,H2')/\N6 D H10 H20 H1' H2':=by
 unfold Ev.clrA at he ⊢
 split at he
 ·injection he with he;injection he with e1 e2;subst e1 e2
  exact⟨H2,rfl,h⟩
 ·rename_i id off n g;cases hb:Ev.blkAt H1 id g with
  |none=>rw[hb] at he;cases he
  |some b =>
  obtain⟨hD,hb2⟩:=h.blkAt hb;rw[hb] at he;simp only[hb2]
  simp only at he ⊢
  split at he
  ·rename_i hc;injection he with he;injection he with e1 e2;subst e1 e2
   exact⟨_,by simp only[hc],h.setAt hD _⟩
  ·cases he
 ·cases he
theorem N6.aslA(h:N6 D H10 H20 H1 H2){n es:Nat}{d x:c7}{H1':List c8}(he:Ev.aslA n es d H1=some (x,H1')):∃H2',Ev.aslA n es d H2=some (x,H2')/\N6 D H10 H20 H1' H2':=by
 unfold Ev.aslA at he ⊢
 split at he
 ·rename_i id i c g;cases hb:Ev.blkAt H1 id g with
  |none=>simp only[hb] at he;cases he
  |some b =>
  obtain⟨hD,hb2⟩:=h.blkAt hb;simp only[hb] at he;simp only[hb2]
  split at he
  ·rename_i hc;injection he with he;injection he with e1 e2;subst e1 e2
   exact⟨_,rfl,h.disown hD⟩
  ·cases he
 ·cases he
def pd3:PO->Bool
 |.alloc _ | .box _ | .bslice .. | .mksl .. | .store .. | .append .. | .copy .. | .apre .. | .clr .. | .asl .. | .call .. | .calld .. | .bad=>true
 |_=>false
theorem N6.evalOp(h:N6 D H10 H20 H1 H2){o:PO}(ho:pd3 o=true){x:c7}{H1':List c8}(he:(Ev.evalOp E a H1 o).run=some (x,H1')):∃H2',(Ev.evalOp E a H2 o).run=some (x,H2')/\N6 D H10 H20 H1' H2':=by
 cases o with
 |alloc z =>
  simp only[Ev.evalOp,DT.run_ret] at he ⊢;injection he with he;injection he with e1 e2;subst e1 e2
  have hl:len H2=len H1:=by rw[n9,n9,h.lenq]
  exact⟨_,by rw[hl];rfl,h.app _⟩
 |box y =>
  simp only[Ev.evalOp] at he ⊢;cases hf:Ev.freezeCells H1 (L6 (c9 E a y)) with
  |none=>rw[hf] at he;cases he
  |some p =>
  obtain⟨cs,Ha⟩:=p;obtain⟨Hb,h1,h2⟩:=N6.freezeCells h hf;rw[hf] at he;rw[h1];simp only[DT.run_ret] at he ⊢;injection he with he;injection he with e1 e2;subst e1 e2
  have hl:len Hb=len Ha:=by rw[n9,n9,h2.lenq]
  exact⟨_,by rw[hl];rfl,h2.app _⟩
 |bslice et es n z parts =>
  simp only[Ev.evalOp] at he ⊢;cases hl:ic8 z (o7 (λp=>(p.1,p.2.1,c9 E a p.2.2)) parts) with
  |none=>rw[hl] at he;cases he
  |some cs =>
  rw[hl] at he
  simp only at he ⊢
  cases hf:Ev.freezeCells H1 cs with
  |none=>rw[hf] at he;cases he
  |some p =>
  obtain⟨cs,Ha⟩:=p;obtain⟨Hb,h1,h2⟩:=N6.freezeCells h hf;rw[hf] at he;rw[h1];simp only[DT.run_ret] at he ⊢;injection he with he;injection he with e1 e2;subst e1 e2
  have hl:len Hb=len Ha:=by rw[n9,n9,h2.lenq]
  exact⟨_,by rw[hl];rfl,h2.app _⟩
 |mksl et es bytes z l c =>
  simp only[Ev.evalOp] at he ⊢;cases h1:oa1 (c9 E a l) with
  |none=>rw[h1] at he;cases he
  |some n =>
  cases h2:oa1 (c9 E a c) with
  |none=>rw[h1,h2] at he;cases he
  |some m =>
  rw[h1,h2] at he
  simp only at he ⊢
  obtain⟨h3,h4⟩:=DT.run_guard_some he;simp only[DT.run_ret] at h4;injection h4 with h4;injection h4 with e1 e2;subst e1 e2
  refine⟨_,?_,h.app _⟩;simp only[DT.guard,DT.run_ite,h3,if_true,DT.run_ret];have hl:len H2=len H1:=by rw[n9,n9,h.lenq]
  rw[hl];rfl
 |store n p y =>
  simp only[Ev.evalOp] at he ⊢
  revert he
  cases c9 E a p with
  |ptr id i c g =>
   intro he
   simp only at he ⊢
   cases hf:Ev.freezeCells H1 (L6 (c9 E a y)) with
   |none=>rw[hf] at he;cases he
   |some q =>
   obtain⟨cs,Ha⟩:=q;obtain⟨Hb,h1,h2⟩:=N6.freezeCells h hf;rw[hf] at he;rw[h1]
   simp only at he ⊢
   cases hb:Ev.blkAt Ha id g with
   |none=>rw[hb] at he;cases he
   |some b =>
   obtain⟨hD,hb2⟩:=h2.blkAt hb;rw[hb] at he;rw[hb2]
   simp only at he ⊢
   obtain⟨hg,he⟩:=DT.run_guard_some he;rw[hg];simp only[DT.run_ret] at he ⊢;injection he with he;injection he with e1 e2;subst e1 e2
   exact⟨_,rfl,h2.setAt hD _⟩
  |_=>intro he;cases he
 |append et es bytes s y=>exact h.appendA he
 |copy es d s =>
  obtain⟨H2',h1,h2⟩:=h.copyA (hb5 he);refine⟨H2',?_,h2⟩;show (fe2 (Ev.copyA es (c9 E a d) (c9 E a s) H2)).run=_;rw[h1];rfl
 |apre es s y=>exact h.apreA he
 |clr es z y =>
  obtain⟨H2',h1,h2⟩:=h.clrA (hb5 he);refine⟨H2',?_,h2⟩;show (fe2 (Ev.clrA es z (c9 E a y) H2)).run=_;rw[h1];rfl
 |asl n es y =>
  obtain⟨H2',h1,h2⟩:=h.aslA (hb5 he);refine⟨H2',?_,h2⟩;show (fe2 (Ev.aslA n es (c9 E a y) H2)).run=_;rw[h1];rfl
 |call f args=>exact h.callA he
 |calld y args =>
  simp only[Ev.evalOp] at he ⊢
  revert he
  cases c9 E a y with
  |fn f caps =>
   intro he
   simp only at he ⊢
   cases hb:Nat.ble bfB f with
   |false=>rw[hb] at he;exact h.callA he
   |true =>
    rw[hb] at he;cases caps with
    |nil=>cases he
    |cons c cs=>exact h.callA he
  |_=>intro he;cases he
 |bad=>cases he
 |_=>cases ho
end
section
variable{E:Env}{a a':List c7}{H H':List c8}
def Agr(a a':List c7)(l:List Nat):Prop:=∀t∈l,a[t]?=a'[t]?
theorem Agr.left{l r:List Nat}(h:Agr a a' (l++r)):Agr a a' l:=λt ht=>h t (Qcad _ ht)
theorem Agr.right{l r:List Nat}(h:Agr a a' (l++r)):Agr a a' r:=λt ht=>h t (Qcaa _ ht)
theorem Agr.t{t:Nat}(h:a[t]?=a'[t]?):c9 E a (.t t)=c9 E a' (.t t):=by rw[Cb0,Cb0,h]
theorem Agr.arg{x:Arg}(h:Agr a a' (Ma8 x)):c9 E a x=c9 E a' x:=by
 cases x with
 |t n=>exact Agr.t (h n (by simp[Ma8]))
 |c x=>rfl
 |g n=>rfl
theorem Agr.opt{x:Option Arg}(h:Agr a a' (we1 x)):x.map (c9 E a)=x.map (c9 E a'):=by
 cases x with
 |none=>rfl
 |some x=>exact congrArg some (Agr.arg h)
theorem Agr.args{xs:List Arg}(h:Agr a a' (xs.flatMap Ma8)):o7 (c9 E a) xs=o7 (c9 E a') xs:=by
 rw[l9,l9];refine Qcaf λx hx=>Agr.arg λt ht=>h t (Qcai.2 ⟨x,hx,ht⟩)
theorem Agr.parts{ps:List (Nat×Nat×Arg)}(h:Agr a a' (ps.flatMap λp=>Ma8 p.2.2)):o7 (λp:Nat×Nat×Arg=>(p.1,p.2.1,c9 E a p.2.2)) ps=o7 (λp=>(p.1,p.2.1,c9 E a' p.2.2)) ps:=by
 rw[l9,l9];refine Qcaf λx hx=>?_
 rw[Agr.arg (E:=E) (a:=a) (a':=a') λt ht=>h t (Qcai.2 ⟨x,hx,ht⟩)]
theorem td5{α β:Type}{f g:α->Option β}:∀{l:List α},(∀x∈l,f x=g x)->tb0 f l=tb0 g l
 |[],_=>rfl
 |x::l,h=>by
  have ih:=td5 (f:=f) (g:=g) (l:=l) λy hy=>h y (by simp[hy])
  have e1:∀(u:α->Option β),tb0 u (x::l)=Option.rec (motive:=λ_=>Option (List β)) none (λy=>Option.rec (motive:=λ_=>Option (List β)) none (λr=>some (y::r)) (tb0 u l)) (u x):=λ_=>rfl
  rw[e1,e1,ih,h x (by simp)]
theorem Agr.gen{o:Oper}{ts:List Nat}(h:Agr a a' ts):Fd2 E a o ts=Fd2 E a' o ts:=by
 unfold Fd2;rw[td5 λt ht=>by rw[Agr.t (E:=E) (h t ht)]]
theorem Oc1(o:PO)(h:Agr a a' (Ob4 o)):evalOp E a H o=evalOp E a' H o:=by
 cases o with
 |alloc z=>rfl
 |bad=>rfl
 |pick c x y=>simp only[evalOp,Agr.arg (E:=E) h.left.left,Agr.arg (E:=E) h.left.right,Agr.arg (E:=E) h.right]
 |build z ps=>simp only[evalOp,Agr.parts (E:=E) h]
 |bslice et es n z ps=>simp only[evalOp,Agr.parts (E:=E) h]
 |tslice es n z ps=>simp only[evalOp,Agr.parts (E:=E) h]
 |tmk es b z x y=>simp only[evalOp,Agr.arg (E:=E) h.left,Agr.arg (E:=E) h.right]
 |slice es x lo hi=>simp only[evalOp,Agr.arg (E:=E) h.left.left,Agr.opt (E:=E) h.left.right,Agr.opt (E:=E) h.right]
 |mkfn f xs=>simp only[evalOp,Agr.args (E:=E) h]
 |call f xs=>simp only[evalOp,Agr.args (E:=E) h]
 |calld x xs=>simp only[evalOp,Agr.args (E:=E) h.right,Agr.arg (E:=E) h.left]
 |gen o ts =>
  have e:Fd2 E a o ts=Fd2 E a' o ts:=Agr.gen h;simp only[evalOp,e]
 |eqn k neg x y o ts=>simp only[evalOp,Kf8,Agr.gen (E:=E) h.right,Agr.arg (E:=E) h.left.left,Agr.arg (E:=E) h.left.right]
 |mv x=>simp only[evalOp,Agr.arg (E:=E) (x:=x) h]
 |nilck x=>simp only[evalOp,Agr.arg (E:=E) (x:=x) h]
 |box x=>simp only[evalOp,Agr.arg (E:=E) (x:=x) h]
 |load ks n agg x=>simp only[evalOp,Agr.arg (E:=E) (x:=x) h]
 |fld off x=>simp only[evalOp,Agr.arg (E:=E) (x:=x) h]
 |ext x i=>simp only[evalOp,Agr.arg (E:=E) (x:=x) h]
 |field off n agg x=>simp only[evalOp,Agr.arg (E:=E) (x:=x) h]
 |not x=>simp only[evalOp,Agr.arg (E:=E) (x:=x) h]
 |neg x=>simp only[evalOp,Agr.arg (E:=E) (x:=x) h]
 |len x=>simp only[evalOp,Agr.arg (E:=E) (x:=x) h]
 |slen x=>simp only[evalOp,Agr.arg (E:=E) (x:=x) h]
 |clr es z x=>simp only[evalOp,Agr.arg (E:=E) (x:=x) h]
 |asl n es x=>simp only[evalOp,Agr.arg (E:=E) (x:=x) h]
 |_=>simp only[evalOp,Agr.arg (E:=E) h.left,Agr.arg (E:=E) h.right]
def ie7(b b':c8):Prop:=b'.dead=b.dead/\b'.g=b.g/\b'.es=b.es/\b'.elems=b.elems/\b'.et=b.et
def Z3(H H':List c8)(id:Nat):Prop:=∀b,H[id]?=some b->∃b',H'[id]?=some b'/\ie7 b b'
theorem ie7.refl(b:c8):ie7 b b:=⟨rfl,rfl,rfl,rfl,rfl⟩
theorem ie7.trans{b c d:c8}(h:ie7 b c)(k:ie7 c d):ie7 b d:=⟨k.1.trans h.1,k.2.1.trans h.2.1,k.2.2.1.trans h.2.2.1,k.2.2.2.1.trans h.2.2.2.1,k.2.2.2.2.trans h.2.2.2.2⟩
theorem Z3.refl(H:List c8)(id:Nat):Z3 H H id:=λb hb=>⟨b,hb,.refl b⟩
theorem Z3.trans{H1 H2 H3:List c8}{id:Nat}(h:Z3 H1 H2 id)(k:Z3 H2 H3 id):Z3 H1 H3 id:=λb hb=>by
 obtain⟨c,hc,h1⟩:=h b hb;obtain⟨d,hd,h2⟩:=k c hc;exact⟨d,hd,h1.trans h2⟩
theorem Z3.blk{id g:Nat}{b:c8}(h:Z3 H H' id)(hb:blkAt H id g=some b):∃b',blkAt H' id g=some b'/\ie7 b b':=by
 obtain⟨h1,h2,h3⟩:=C6 hb;obtain⟨b',k1,k2⟩:=h b h1;refine⟨b',?_,k2⟩;unfold blkAt;rw[E2,k1];have hd:b'.dead=false:=k2.1.trans h2;have hg:Nat.beq b'.g g=true:=by rw[k2.2.1,h3];exact Nat.beq_refl g
 simp only[hd,hg]
theorem ie8{p:c7}{n:Nat}{q:Bool×List c7}(h:∀id∈xa3 p,Z3 H H' id)(hl:ac0 H p n=some q):ac0 H' p n=some q:=by
 unfold ac0 at hl ⊢;cases p with
 |ptr id i c g =>
  simp only at hl ⊢
  cases hb:blkAt H id g with
  |none=>simp[hb] at hl
  |some b =>
  obtain⟨b',h1,h2⟩:=(h id (by simp[xa3])).blk hb
  simp only[hb] at hl;rw[h1];simp only[h2.2.2.2.1];exact hl
 |_=>exact hl
theorem Gb7{x:Option c7}{H1:List c8}{r:c7}(h:(opt x H).run=some (r,H1))(H':List c8):H1=H/\(opt x H').run=some (r,H'):=by
 obtain⟨y,h1,h2⟩:=gb9 h;injection h2 with e1 e2;subst e1 e2 h1;exact⟨rfl,rfl⟩
theorem Ca9{x r:c7}{H1:List c8}(h:(DT.ret (x,H)).run=some (r,H1))(H':List c8):H1=H/\(DT.ret (x,H')).run=some (r,H'):=by
 simp only[DT.run_ret] at h ⊢;injection h with h;injection h with e1 e2;subst e1 e2
 exact⟨rfl,rfl⟩
theorem ob0{c:Bool}{x r:c7}{H1:List c8}(h:(DT.guard c (DT.ret (x,H))).run=some (r,H1))(H':List c8):H1=H/\(DT.guard c (DT.ret (x,H'))).run=some (r,H'):=by
 obtain⟨h1,h2⟩:=DT.run_guard_some h;obtain⟨e,h3⟩:=Ca9 h2 H';exact⟨e,by rw[DT.guard,DT.run_ite,h1];exact h3⟩
theorem yc7{α:Type}{d:DT α}{f:α->c7}{r:c7}{H1:List c8}(h:(d.bind λy=>DT.ret (f y,H)).run=some (r,H1))(H':List c8):H1=H/\(d.bind λy=>DT.ret (f y,H')).run=some (r,H'):=by
 obtain⟨y,h1,h2⟩:=DT.run_bind_some h;obtain⟨e,h3⟩:=Ca9 h2 H';exact⟨e,by rw[DT.run_bind,h1];exact h3⟩
theorem Oc2{o:PO}(ho:pd0 o=true){x:c7}{H1:List c8}(he:(evalOp E a H o).run=some (x,H1)):H1=H/\∀H',(∀id∈db3 E a o,Z3 H H' id)->(evalOp E a H' o).run=some (x,H'):=by
 suffices hs:∀H',(∀id∈db3 E a o,Z3 H H' id)->H1=H/\(evalOp E a H' o).run=some (x,H') by
  exact⟨(hs H λid _=>.refl H id).1,λH' h=>(hs H' h).2⟩
 intro H' hu;cases o with
 |mv y=>exact Ca9 he H'
 |nilck y =>
  simp only[evalOp] at he ⊢
  revert he
  cases c9 E a y<;>intro he<;>first | exact Ca9 he H' | cases he
 |pick c y z =>
  simp only[evalOp] at he ⊢
  revert he
  cases c9 E a c with
  |v u =>
   cases u with
   |bool b =>
    intro he;simp only[DT.run_ite,DT.run_ret] at he ⊢;cases b<;>exact Ca9 he H'
   |_=>intro he;cases he
  |_=>intro he;cases he
 |build z ps =>
  simp only[evalOp] at he ⊢
  split at he
  ·exact Ca9 he H'
  ·cases he
 |tslice es n z ps =>
  simp only[evalOp] at he ⊢
  split at he
  ·split at he
   ·exact Ca9 he H'
   ·cases he
  ·cases he
 |tmk es bb z y c =>
  simp only[evalOp] at he ⊢
  split at he
  ·exact ob0 he H'
  ·cases he
 |load ks n agg y =>
  simp only[evalOp] at he ⊢;cases hl:ac0 H (c9 E a y) n with
  |none=>rw[hl] at he;cases he
  |some q =>
  rw[ie8 hu hl];rw[hl] at he;obtain⟨hg,he⟩:=DT.run_guard_some he;simp only[hg];exact Gb7 he H'
 |fld off y =>
  simp only[evalOp] at he ⊢
  revert he
  cases c9 E a y<;>intro he<;>first | exact Ca9 he H' | cases he
 |idxA n es y i =>
  simp only[evalOp] at he ⊢
  revert he
  cases oa1 (c9 E a i) with
  |none=>intro he;cases he
  |some m=>cases c9 E a y<;>intro he<;>first | exact ob0 he H' | cases he
 |idxS es y i =>
  have hu':∀id∈xa3 (c9 E a y),Z3 H H' id:=hu;simp only[evalOp] at he ⊢
  revert he hu'
  cases oa1 (c9 E a i) with
  |none=>intro he _;cases he
  |some m =>
   cases c9 E a y with
   |sl id off n g =>
    intro he hu'
    simp only at he ⊢
    cases hb:blkAt H id g with
    |none=>rw[hb] at he;cases he
    |some b =>
    obtain⟨b',h1,h2⟩:=(hu' id (by simp[xa3])).blk hb
    rw[hb] at he;rw[h1];simp only[h2.2.2.1] at he ⊢;cases hbe:Nat.beq b.es es with
    |false=>rw[hbe] at he;cases he
    |true =>
     rw[hbe] at he;exact ob0 he H'
   |tree es' n get =>
    intro he _
    simp only at he ⊢
    cases hbe:Nat.beq es' es with
    |false=>rw[hbe] at he;cases he
    |true =>
     rw[hbe] at he;exact ob0 he H'
   |_=>intro he _;cases he
 |slice es y lo hi =>
  have hu':∀id∈xa3 (c9 E a y),Z3 H H' id:=hu;simp only[evalOp] at he ⊢
  revert he hu'
  cases c9 E a y with
  |sl id off n g =>
   intro he hu'
   simp only at he ⊢
   cases hb:blkAt H id g with
   |none=>rw[hb] at he;cases he
   |some b =>
   obtain⟨b',h1,h2⟩:=(hu' id (by simp[xa3])).blk hb
   rw[hb] at he;rw[h1];simp only[h2.2.2.1] at he ⊢;cases hbe:Nat.beq b.es es with
   |false=>rw[hbe] at he;cases he
   |true =>
    rw[hbe] at he;exact yc7 (f:=λy:Nat×Nat=>.sl id (off+y.1) (y.2-y.1) g) he H'
  |tree es' n get =>
   intro he _
   simp only at he ⊢
   cases hbe:Nat.beq es' es with
   |false=>rw[hbe] at he;cases he
   |true =>
    rw[hbe] at he;exact yc7 (f:=λy:Nat×Nat=>.tree es' (y.2-y.1) λi=>get (y.1+i)) he H'
  |v u =>
   intro he _;cases u with
   |slice ad n c =>
    cases ad with
    |some _=>cases he
    |none=>cases n with
     |succ _=>cases he
     |zero=>cases c with
      |succ _=>cases he
      |zero=>exact yc7 (f:=λ_=>.v (.slice none 0 0)) he H'
   |_=>cases he
  |_=>intro he _;cases he
 |mkfn f xs =>
  simp only[evalOp] at he ⊢;cases hb:Nat.ble bfB f with
  |false =>
   simp only[hb] at he ⊢
   split at he
   ·exact Ca9 he H'
   ·cases he
  |true =>
   simp only[hb] at he ⊢
   split at he
   ·exact Ca9 he H'
   ·cases he
 |ext y i =>
  simp only[evalOp] at he ⊢
  revert he
  cases c9 E a y<;>intro he<;>first | exact Gb7 he H' | cases he
 |field off n agg y =>
  simp only[evalOp] at he ⊢
  revert he
  cases c9 E a y with
  |agg cs =>
   intro he
   simp only at he ⊢
   split at he
   ·exact Gb7 he H'
   ·cases he
  |_=>intro he;cases he
 |index ks n es agg y i =>
  simp only[evalOp] at he ⊢
  revert he
  cases oa1 (c9 E a i) with
  |none=>cases c9 E a y<;>intro he<;>cases he
  |some m =>
   cases c9 E a y with
   |agg cs =>
    intro he
    simp only at he ⊢
    obtain⟨h1,h2⟩:=DT.run_guard_some he;obtain⟨e,h3⟩:=Gb7 h2 H';exact⟨e,by rw[DT.guard,DT.run_ite,h1];exact h3⟩
   |_=>intro he;cases he
 |bin op y z=>exact yc7 (f:=λr=>r) he H'
 |eqn k neg y z o ts =>
  obtain⟨h1,h2⟩:=DT.run_guard_some he;obtain⟨e,h3⟩:=Gb7 h2 H';exact⟨e,by rw[evalOp,DT.guard,DT.run_ite,h1];exact h3⟩
 |eqc neg fl y z =>
  simp only[evalOp] at he ⊢
  revert he
  cases c9 E a y with
  |agg cs =>
   cases c9 E a z with
   |agg ds=>intro he;exact ob0 he H'
   |_=>intro he;cases he
  |_=>intro he;cases he
 |not y =>
  simp only[evalOp] at he ⊢
  revert he
  cases c9 E a y with
  |v u=>cases u<;>intro he<;>first | exact Ca9 he H' | cases he
  |_=>intro he;cases he
 |neg y =>
  simp only[evalOp] at he ⊢
  revert he
  cases c9 E a y with
  |v u=>cases u<;>intro he<;>first | exact Ca9 he H' | cases he
  |_=>intro he;cases he
 |gen o ts=>exact Gb7 he H'
 |len y=>exact Gb7 he H'
 |sidx y z =>
  simp only[evalOp] at he ⊢
  revert he
  cases c9 E a y with
  |v u=>cases u with
   |string q =>
    intro he;cases hm:oa1 (c9 E a z) with
    |none=>simp only[hm] at he;cases he
    |some m =>
     simp only[hm] at he ⊢;exact ob0 he H'
   |_=>intro he;cases he
  |_=>intro he;cases he
 |slen y =>
  simp only[evalOp] at he ⊢
  revert he
  cases c9 E a y with
  |v u=>cases u<;>intro he<;>first | exact Ca9 he H' | cases he
  |_=>intro he;cases he
 |_=>cases ho
end
section
variable{E:Env}{a:List c7}{H H1:List c8}
theorem Z3.disown(H:List c8)(l id:Nat):Z3 H (disown H l) id:=λb hb=>by
 unfold Ev.disown modAt;rw[E2];by_cases e:l=id
 ·subst e;simp only[hb,E3];rw[Qcj (Qcb.1 hb).1];exact⟨_,rfl,rfl,rfl,rfl,rfl,rfl⟩
 ·cases H[l]? with
  |none=>exact⟨b,hb,.refl b⟩
  |some c =>
   simp only[E3];rw[Qcd e];exact⟨b,hb,.refl b⟩
theorem Z3.setAt(H:List c8){l id:Nat}(c:c8)(hne:l≠id):Z3 H (Ev.setAt H l c) id:=λb hb=>by
 rw[E3,Qcd hne];exact⟨b,hb,.refl b⟩
theorem Z3.modAt(H:List c8){l id:Nat}(f:c8->c8)(hne:l≠id):Z3 H (Ev.modAt H l f) id:=by
 unfold Ev.modAt;cases nth H l with
 |none=>exact .refl _ _
 |some c=>exact .setAt H _ hne
theorem Z3.app(H l:List c8)(id:Nat):Z3 H (Ev.app H l) id:=λb hb=>by
 rw[I5,Qcc (Qcb.1 hb).1];exact⟨b,hb,.refl b⟩
theorem kd2{x y:c7}(h:freezeCell H x=some (y,H1))(id:Nat):Z3 H H1 id:=by
 unfold freezeCell at h;cases x with
 |v u =>
  simp only at h
  split at h
  ·injection h with h;injection h with e1 e2;subst e2;exact .refl _ _
  ·cases h
 |tree es n get=>simp only at h;injection h with h;injection h with e1 e2;subst e2;exact .refl _ _
 |fn f caps =>
  simp only at h
  split at h
  ·injection h with h;injection h with e1 e2;subst e2;exact .refl _ _
  ·cases h
 |sl l off n g =>
  simp only at h
  split at h
  ·injection h with h;injection h with e1 e2;subst e2;exact .disown _ _ _
  ·cases h
 |_=>cases h
theorem Va3:∀{xs ys:List c7} {H H1:List c8},freezeCells H xs=some (ys,H1)->∀id,Z3 H H1 id
 |[],ys,H,H1,h,id=>by
  simp only[freezeCells] at h;injection h with h;injection h with e1 e2;subst e2;exact .refl _ _
 |x::xs,ys,H,H1,h,id=>by
  simp only[freezeCells] at h;cases h1:freezeCell H x with
  |none=>simp[h1] at h
  |some p =>
  obtain⟨y,Ha⟩:=p;simp only[h1] at h;cases h2:freezeCells Ha xs with
  |none=>simp[h2] at h
  |some q =>
  obtain⟨l,Hb⟩:=q;simp only[h2] at h;injection h with h;injection h with e1 e2;subst e2
  exact (kd2 h1 id).trans (Va3 h2 id)
theorem Md8{roots r:List Nat}{id j:Nat}(h:Pa4 roots id=(j,r)){y:Nat}(hy:y∈r):y∈roots\/y=id:=by
 unfold Pa4 at h
 split at h
 ·injection h with e1 e2;subst e2;exact .inl hy
 ·rw[I5] at h;injection h with e1 e2;subst e2
  simpa using hy
theorem Oc3{p q:Ma7}{x z:c7}(h:capArg H p x=some (z,q)){y:Nat}(hy:y∈q.roots):y∈p.roots\/y∈gb7 [x]:=by
 have hsame:∀{z':c7},some (z',p)=some (z,q)->y∈p.roots\/y∈gb7 [x]:=λ{z'} e=>by
  injection e with e;injection e with e1 e2;subst e2;exact .inl hy
 unfold capArg at h;cases x with
 |v u=>exact hsame h
 |tree es n get=>exact hsame h
 |tptr cs=>exact hsame h
 |fn f caps=>cases caps with
  |nil=>exact hsame h
  |cons=>cases h
 |ptr id i c g =>
  simp only at h
  split at h
  ·cases hi:Pa4 p.roots id with
   |mk j r =>
    simp only[hi] at h;injection h with h;injection h with e1 e2;subst e2
    rcases Md8 hi hy with h|h
    ·exact .inl h
    ·subst h;exact .inr (by show y∈y::_;exact Qcu)
  ·cases h
 |sl id off n g =>
  simp only at h
  split at h
  ·injection h with h;injection h with e1 e2;subst e2;exact .inl hy
  ·cases h
 |_=>cases h
theorem oc9 (x : c7) (l : List c7) : gb7 (x :: l) = match x with
  |.ptr id _ _ _=>id::gb7 l
  |_=>gb7 l:=rfl
theorem kd3{x:c7}{l:List c7}{y:Nat}:y∈gb7 (x::l)↔y∈gb7 [x]\/y∈gb7 l:=by
 rw[oc9,oc9]
 have:gb7 []=[]:=rfl
 cases x<;>simp[this]
theorem Sb0:∀{xs zs:List c7} {p q:Ma7},capArgs H p xs=some (zs,q)->∀{y:Nat},y∈q.roots->y∈p.roots\/y∈gb7 xs
 |[],zs,p,q,h,y,hy=>by
  simp only[capArgs] at h;injection h with h;injection h with e1 e2;subst e2;exact .inl hy
 |x::xs,zs,p,q,h,y,hy=>by
  simp only[capArgs] at h;cases h1:capArg H p x with
  |none=>simp[h1] at h
  |some r =>
  obtain⟨z,p1⟩:=r;simp only[h1] at h;cases h2:capArgs H p1 xs with
  |none=>simp[h2] at h
  |some r2 =>
  obtain⟨l,p2⟩:=r2;simp only[h2] at h;injection h with h;injection h with e1 e2;subst e2
  rw[kd3]
  rcases Sb0 h2 hy with h|h
  ·rcases Oc3 h1 h with h|h
   ·exact .inl h
   ·exact .inr (.inl h)
  ·exact .inr (.inr h)
theorem pc0{own:Nat->Bool}:∀{xs zs:List c7} {p q:Ma7} {k:Nat},prepArgs H own p k xs=some (zs,q)->∀{y:Nat},y∈q.roots->y∈p.roots\/y∈va2 own k xs
 |[],zs,p,q,k,h,y,hy=>by
  simp only[prepArgs] at h;injection h with h;injection h with e1 e2;subst e2;exact .inl hy
 |x::xs,zs,p,q,k,h,y,hy=>by
  simp only[prepArgs] at h;cases h1:prepArg H (own k) p x with
  |none=>simp[h1] at h
  |some r =>
  obtain⟨z,p1⟩:=r;simp only[h1] at h;cases h2:prepArgs H own p1 (k+1) xs with
  |none=>simp[h2] at h
  |some r2 =>
  obtain⟨l,p2⟩:=r2;simp only[h2] at h;injection h with h;injection h with e1 e2;subst e2
  have hrest:∀{y},y∈va2 own (k+1) xs->y∈va2 own k (x::xs):=λ{y} hy=>by
   simp only[va2];cases x with
   |ptr=>exact Qcab _ hy
   |sl=>cases own k<;>first | exact Qcab _ hy | exact hy
   |agg=>simp only[I5];exact Qcaa _ hy
   |fn=>simp only[I5];exact Qcaa _ hy
   |_=>exact hy
  rcases pc0 h2 hy with h|h
  ·have hcap:∀{z':c7} {q':Ma7},capArg H p x=some (z',q')->q'=p1->y∈p.roots\/y∈gb7 [x]:=λe e2=>Oc3 e (e2 ▸ h)
   unfold prepArg at h1;cases x with
   |v u =>
    simp only at h1
    injection h1 with h1;injection h1 with e1 e2;subst e2;exact .inl h
   |sl id off n g =>
    cases ho:own k with
    |false =>
     rw[ho] at h1
     rcases hcap h1 rfl with h|h
     ·exact .inl h
     ·cases h
    |true =>
     rw[ho] at h1
     simp only at h1
     split at h1
     ·split at h1
      ·cases hi:Pa4 p.roots id with
       |mk j r =>
        simp only[hi] at h1;injection h1 with h1;injection h1 with e1 e2;subst e2
        rcases Md8 hi h with h|h
        ·exact .inl h
        ·subst h;refine .inr ?_;simp only[va2,ho];exact Qcu
      ·cases h1
     ·cases h1
   |agg cs =>
    simp only at h1
    cases h3:capArgs H p cs with
    |none=>simp[h3] at h1
    |some r3 =>
    simp only[h3] at h1;injection h1 with h1;injection h1 with e1 e2;subst e2
    rcases Sb0 h3 h with h|h
    ·exact .inl h
    ·refine .inr ?_;simp only[va2,I5];exact Qcad _ h
   |fn f cs =>
    simp only at h1
    cases h3:capArgs H p cs with
    |none=>simp[h3] at h1
    |some r3 =>
    simp only[h3] at h1;injection h1 with h1;injection h1 with e1 e2;subst e2
    rcases Sb0 h3 h with h|h
    ·exact .inl h
    ·refine .inr ?_;simp only[va2,I5];exact Qcad _ h
   |ptr id i c g =>
    rcases hcap h1 rfl with h|h
    ·exact .inl h
    ·refine .inr ?_
     have:y=id:=by simpa [oc9,show gb7 []=[] from rfl] using h
     subst this;simp only[va2];exact Qcu
   |_ =>
    rcases hcap h1 rfl with h|h
    ·exact .inl h
    ·cases h
  ·exact .inr (hrest h)
theorem Oc4:∀{roots:List Nat} {H out H1:List c8},putBack H roots out=some H1->∀{id:Nat},id∉roots->Z3 H H1 id
 |[],H,[],H1,h,id,_=>by
  simp only[putBack] at h;injection h with h;subst h;exact .refl _ _
 |[],H,c::out,H1,h,id,_=>by
  simp only[putBack] at h;injection h with h;subst h;exact .app _ _ _
 |r::roots,H,[],H1,h,id,_=>by simp[putBack] at h
 |r::roots,H,c::out,H1,h,id,hn=>by
  simp only[putBack] at h;simp only[Qcz,not_or] at hn;exact (Z3.modAt H _ (λe=>hn.1 e.symm)).trans (Oc4 h hn.2)
theorem fd1(held:Bool)(H:List c8):∀(lent:List Nat) (id:Nat),Z3 H (settle lent held H) id
 |[],id=>.refl _ _
 |l::lent,id=>by
  have ih:=fd1 held H lent id;rw[Ob7];split
  ·exact ih.trans (.disown _ _ _)
  ·exact ih
theorem Hc9{f:FuncId}{args:List c7}{x:c7}(he:(callA E f args H).run=some (x,H1)){id:Nat}(hid:id∉va2 (E.own f) 0 args):Z3 H H1 id:=by
 unfold callA at he;cases hpr:prepArgs H (E.own f) { roots:=[],lent:=[] } 0 args with
 |none=>rw[hpr] at he;cases he
 |some q =>
 obtain⟨ic9,p⟩:=q;rw[hpr] at he
 simp only at he
 have hroot:id∉p.roots:=λh=>by
  rcases pc0 hpr h with h|h
  ·cases h
  ·exact hid h
 split at he
 ·obtain⟨⟨r,out⟩,_,he⟩:=DT.run_bind_some he
  simp only at he
  cases hpb:putBack H p.roots out with
  |none=>rw[hpb] at he;cases he
  |some H2 =>
  rw[hpb] at he;simp only[DT.run_ret] at he;injection he with he;injection he with e1 e2;subst e2
  exact (Oc4 hpb hroot).trans (fd1 _ _ _ _)
 ·cases he
theorem Vd1{o:PO}(ho:pd3 o=true){x:c7}(he:(evalOp E a H o).run=some (x,H1)){id:Nat}(hid:id∉ba2 E a o):Z3 H H1 id:=by
 cases o with
 |alloc z =>
  simp only[evalOp,DT.run_ret] at he;injection he with he;injection he with e1 e2;subst e2
  exact .app _ _ _
 |box y =>
  simp only[evalOp] at he;cases hf:freezeCells H (L6 (c9 E a y)) with
  |none=>rw[hf] at he;cases he
  |some p =>
  rw[hf] at he;simp only[DT.run_ret] at he;injection he with he;injection he with e1 e2;subst e2
  exact (Va3 hf id).trans (.app _ _ _)
 |bslice et es n z parts =>
  simp only[evalOp] at he
  split at he
  ·rename_i cs _;cases hf:freezeCells H cs with
   |none=>rw[hf] at he;cases he
   |some p =>
   rw[hf] at he;simp only[DT.run_ret] at he;injection he with he;injection he with e1 e2;subst e2
   exact (Va3 hf id).trans (.app _ _ _)
  ·cases he
 |mksl et es bytes z l c =>
  simp only[evalOp] at he
  split at he
  ·obtain⟨_,h⟩:=DT.run_guard_some he;simp only[DT.run_ret] at h;injection h with h;injection h with e1 e2;subst e2
   exact .app _ _ _
  ·cases he
 |store n p y =>
  have hid':id∉xa3 (c9 E a p):=hid;simp only[evalOp] at he
  revert he hid'
  cases c9 E a p with
  |ptr l i c g =>
   intro he hid'
   simp only at he
   cases hf:freezeCells H (L6 (c9 E a y)) with
   |none=>rw[hf] at he;cases he
   |some q =>
   rw[hf] at he
   simp only at he
   split at he
   ·obtain⟨_,he⟩:=DT.run_guard_some he;simp only[DT.run_ret] at he;injection he with he;injection he with e1 e2;subst e2
    exact (Va3 hf id).trans (.setAt _ _ λe=>hid' (by simp[xa3,e]))
   ·cases he
  |_=>intro he _;cases he
 |append et es bytes s y =>
  have hid':id∉xa3 (c9 E a s):=hid;have he':(appendA et es bytes (c9 E a s) (c9 E a y) H).run=some (x,H1):=he
  revert he' hid'
  generalize c9 E a s=u;intro hid' he;unfold appendA at he
  split at he
  ·split at he
   ·rcases DT.run_ite_some he with⟨_,h⟩|⟨_,h⟩
    ·simp only[DT.run_ret] at h;injection h with h;injection h with e1 e2;subst e2;exact .refl _ _
    ·obtain⟨_,h⟩:=DT.run_guard_some h;simp only[DT.run_ret] at h;injection h with h;injection h with e1 e2;subst e2;exact .app _ _ _
   ·split at he
    ·split at he
     ·obtain⟨_,h⟩:=DT.run_guard_some he;simp only[DT.run_ret] at h;injection h with h;injection h with e1 e2;subst e2
      exact .setAt _ _ λe=>hid' (by simp[xa3,e])
     ·cases he
    ·cases he
   ·cases he
  ·cases he
 |copy es d s =>
  have hid':id∉xa3 (c9 E a d):=hid;have he':copyA es (c9 E a d) (c9 E a s) H=some (x,H1):=hb5 he
  revert he' hid'
  generalize c9 E a d=u;intro hid' he;unfold copyA at he
  split at he
  ·split at he
   ·split at he
    ·split at he
     ·injection he with he;injection he with e1 e2;subst e2
      exact .setAt _ _ λe=>hid' (by simp[xa3,e])
     ·cases he
    ·cases he
   ·cases he
  ·cases he
 |apre es s y =>
  have hid':id∉xa3 (c9 E a s):=hid;have he':(apreA es (c9 E a s) (c9 E a y) H).run=some (x,H1):=he
  revert he' hid'
  generalize c9 E a s=u;intro hid' he;unfold apreA at he
  split at he
  ·split at he
   ·obtain⟨_,h⟩:=DT.run_guard_some he;simp only[DT.run_ret] at h;injection h with h;injection h with e1 e2;subst e2;exact .refl _ _
   ·split at he
    ·split at he
     ·obtain⟨_,h⟩:=DT.run_guard_some he;simp only[DT.run_ret] at h;injection h with h;injection h with e1 e2;subst e2
      exact .setAt _ _ λe=>hid' (by simp[xa3,e])
     ·cases he
    ·cases he
   ·cases he
  ·cases he
 |clr es z y =>
  have hid':id∉xa3 (c9 E a y):=hid;have he':clrA es z (c9 E a y) H=some (x,H1):=hb5 he
  revert he' hid'
  generalize c9 E a y=u;intro hid' he;unfold clrA at he
  split at he
  ·injection he with he;injection he with e1 e2;subst e2;exact .refl _ _
  ·split at he
   ·split at he
    ·injection he with he;injection he with e1 e2;subst e2
     exact .setAt _ _ λe=>hid' (by simp[xa3,e])
    ·cases he
   ·cases he
  ·cases he
 |asl n es y =>
  have he':aslA n es (c9 E a y) H=some (x,H1):=hb5 he
  revert he'
  generalize c9 E a y=u;intro he;unfold aslA at he
  split at he
  ·split at he
   ·split at he
    ·injection he with he;injection he with e1 e2;subst e2;exact .disown _ _ _
    ·cases he
   ·cases he
  ·cases he
 |call f args=>exact Hc9 he hid
 |calld y args =>
  have hid':id∉ba2 E a (.calld y args):=hid;simp only[evalOp] at he;simp only[ba2] at hid'
  revert he hid'
  cases c9 E a y with
  |fn f caps =>
   intro he hid'
   simp only at he hid'
   cases hb:Nat.ble bfB f with
   |false=>rw[hb] at he hid';exact Hc9 he hid'
   |true =>
    rw[hb] at he hid';cases caps with
    |nil=>cases he
    |cons c cs=>exact Hc9 he hid'
  |_=>intro he;cases he
 |bad=>cases he
 |_=>cases ho
end
theorem pc1{E:Env}:∀(l r:List PI) (s:St),T2 E (l++r) s=(T2 E l s).bind (T2 E r)
 |[],r,s=>rfl
 |p::l,r,s=>by
  have e1:T2 E (p::l++r) s=(gb6 E s p).bind (T2 E (l++r)):=rfl;have e2:T2 E (p::l) s=(gb6 E s p).bind (T2 E l):=rfl;rw[e1,e2]
  have:T2 E (l++r)=λs=>(T2 E l s).bind (T2 E r):=funext λs=>pc1 l r s
  rw[this];generalize gb6 E s p=d
  induction d with
  |ret x=>rfl
  |fail=>rfl
  |ite b t e iht ihe=>simp only[DT.bind_ite,iht,ihe]
def bc1(E:Env)(f:Nat->Option PI)(T:Nat->St)(j:Nat):Prop:=match f j with
 |some p=>(gb6 E (T j) p).run=some (T (j+1))
 |none=>T (j+1)=T j
theorem hb8{E:Env}(f:Nat->Option PI):∀(n:Nat) (s s':St),(T2 E ((List.range n).filterMap f) s).run=some s'->∃T:Nat->St,T 0=s/\T n=s'/\∀j,j<n->bc1 E f T j
 |0,s,s',h=>⟨λ_=>s,rfl,by simpa [T2] using h,λj hj=>by omega⟩
 |n+1,s,s',h=>by
  rw[List.range_succ,List.filterMap_append,pc1] at h;obtain⟨s1,h1,h2⟩:=DT.run_bind_some h;obtain⟨T,t0,t1,t2⟩:=hb8 f n s s1 h1;refine⟨λj=>if j<=n then T j else s',by simp[t0],if_neg (by omega),λj hj=>?_⟩
  unfold bc1;by_cases hjn:j<n
  ·have:=t2 j hjn
   unfold bc1 at this;simp only[show j<=n from by omega,show j+1<=n from by omega,if_true]
   exact this
  ·have:j=n:=by omega
   subst this;simp only[Qcag,if_true,show ¬ (j+1<=j) from by omega,if_false,t1]
   cases hf:f j with
   |none =>
    simp only[List.filterMap_cons,hf,List.filterMap_nil] at h2;have h2':some s1=some s':=h2;injection h2' with h2';exact h2'.symm
   |some p =>
    simp only[List.filterMap_cons,hf,List.filterMap_nil] at h2;have h2':((gb6 E s1 p).bind (T2 E [])).run=some s':=h2;obtain⟨s2,h3,h4⟩:=DT.run_bind_some h2';have h4':some s2=some s':=h4;injection h4' with h4';subst h4';exact h3
open Classical in
def sa9(H:List c8)(D:Nat->Prop):List c8:=H.mapIdx λi b=>if D i then { b with dead:=true } else b
open Classical in
def nb1(a b:List c7)(D:Nat->Prop):List c7:=a.mapIdx λi x=>if D i then (b[i]?).getD .unk else x
section
variable{H H' H0:List c8}{D D':Nat->Prop}{a c:List c7}
theorem Fb2:(sa9 H D).length=H.length:=by simp[sa9]
theorem Z9{i:Nat}(h:¬ D i):(sa9 H D)[i]?=H[i]?:=by
 simp only[sa9,Qct,if_neg h];cases H[i]?<;>rfl
theorem Da0{i:Nat}(h:D i):(sa9 H D)[i]?=(H[i]?).map λb=>{ b with dead:=true }:=by
 simp only[sa9,Qct,if_pos h]
theorem ye0{i:Nat}{b:c8}(h:(sa9 H D)[i]?=some b)(hd:b.dead=false):¬ D i/\H[i]?=some b:=by
 by_cases hD:D i
 ·rw[Da0 hD] at h;simp only[Qcq] at h;obtain⟨c,_,rfl⟩:=h;cases hd
 ·exact⟨hD,by rwa [Z9 hD] at h⟩
theorem ob1:(nb1 a c D).length=a.length:=by simp[nb1]
theorem ob2{i:Nat}(h:¬ D i):(nb1 a c D)[i]?=a[i]?:=by
 simp only[nb1,Qct,if_neg h];cases a[i]?<;>rfl
theorem Oc5{i:Nat}(h:D i)(hi:i<a.length):(nb1 a c D)[i]?=some ((c[i]?).getD .unk):=by
 simp only[nb1,Qct,if_pos h,Qca hi,Option.map_some]
theorem ye1(h:∀i,¬ D i):nb1 a c D=a:=Qcw λi=>ob2 (h i)
theorem ye2(h:∀i,¬ D i):sa9 H D=H:=Qcw λi=>Z9 (h i)
theorem ie9(H:List c8)(d:Nat)(l:List Nat):Gc6 H (d::l)=modAt (Gc6 H l) d λb=>{ b with dead:=true }:=rfl
theorem af4(H:List c8)(f:c8->c8)(d i:Nat):(modAt H d f)[i]?=if d=i then (H[i]?).map f else H[i]?:=by
 unfold modAt;rw[E2];by_cases e:d=i
 ·subst e;rw[if_pos rfl];cases h:H[d]? with
  |none=>simp[h]
  |some b=>simp only[E3];rw[Qcj (Qcb.1 h).1];rfl
 ·rw[if_neg e];cases h:H[d]? with
  |none=>rfl
  |some b=>simp only[E3];rw[Qcd e]
theorem Qe6(l:List Nat):Gc6 H l=sa9 H (·∈l):=by
 refine Qcw λi=>?_
 induction l with
 |nil=>rw[Z9 (by simp)];rfl
 |cons d l ih =>
  rw[ie9,af4,ih];by_cases e:d=i
  ·subst e;rw[if_pos rfl,Da0 (D:=(·∈d::l)) (by simp)]
   by_cases hd:d∈l
   ·rw[Da0 hd];cases H[d]?<;>rfl
   ·rw[Z9 hd]
  ·rw[if_neg e];by_cases hd:i∈l
   ·rw[Da0 hd,Da0 (D:=(·∈d::l)) (by simp[hd])]
   ·rw[Z9 hd,Z9 (D:=(·∈d::l)) (by simp[hd];exact λh=>e h.symm)]
theorem pc2 (H0 H : List c8) (d : Nat) (l : List Nat) : wb9 H0 H (d :: l) = match nth H0 d with
  |some b=>setAt (wb9 H0 H l) d b
  |none=>wb9 H0 H l:=rfl
theorem ye3(l:List Nat):(wb9 H0 H l).length=H.length:=by
 induction l with
 |nil=>rfl
 |cons d l ih =>
  rw[pc2];split
  ·rw[E3];simp[ih]
  ·exact ih
theorem td6{l:List Nat}{i:Nat}(h:i∉l):(wb9 H0 H l)[i]?=H[i]?:=by
 induction l with
 |nil=>rfl
 |cons d l ih =>
  simp only[Qcz,not_or] at h;rw[pc2];split
  ·rw[E3,Qcd (λe=>h.1 e.symm)];exact ih h.2
  ·exact ih h.2
theorem Xc2{l:List Nat}{i:Nat}(h:i∈l)(h0:i<H0.length)(h1:i<H.length):(wb9 H0 H l)[i]?=H0[i]?:=by
 induction l with
 |nil=>cases h
 |cons d l ih =>
  rw[pc2,E2];by_cases e:d=i
  ·subst e;rw[Qca h0];simp only[E3];rw[Qcj (by rw[ye3];exact h1)]
  ·have hm:i∈l:=(Qcz.1 h).resolve_left λh=>e h.symm
   split
   ·rw[E3,Qcd e];exact ih hm
   ·exact ih hm
end
section
variable{ops:Array Oper}{M:List Nat}
theorem db6{o:Oper}{i:Nat}:i∈K4 o↔∃e∈o.after,Region.binds .any e=true/\e.on=i:=by
 simp[K4,and_assoc]
theorem yc8(h:Td9 ops M=true){j:Nat}{o:Oper}(ho:ops[j]?=some o){i:Nat}(hi:i∈K4 o):i<j:=by
 have hj:=(Qcah.1 ho).1
 have:=Qcm.1 h j (Qcp.2 hj)
 simp only[ho,Qcf] at this;have h2:=Qcm.1 this.1 i hi;simpa [Qcv] using h2
theorem fd2(h:Td9 ops M=true)(ex:Nat->Prop)(hex:∀(j:Nat) o,ops[j]?=some o->ex j->∀i∈K4 o,ex i) :
  ∀(j:Nat) (o:Oper),ops[j]?=some o->(∀i∈K4 o,ex i)->∀i,i<ops.size->C9 M i j=true->ex i:=by
 intro j
 induction j using Nat.strongRecOn with
 |_ j ih =>
  intro o ho hd i hi hb;have hj:=(Qcah.1 ho).1
  have:=Qcm.1 h j (Qcp.2 hj)
  simp only[ho,Qcf] at this;have h2:=Qcm.1 this.2 i (Qcp.2 hi);unfold C9 at hb;rw[hb] at h2;simp only[Bool.not_true,Bool.false_or,List.any_eq_true,Qcae] at h2;obtain⟨m,hm,h3⟩:=h2
  rcases h3 with h3|h3
  ·have:=Qch h3
   subst this;exact hd m hm
  ·have hlt:=yc8 h ho hm;have hms:m<ops.size:=by omega
   have hom:ops[m]?=some ops[m]:=Qck hms;exact ih m hlt _ hom (hex m _ hom (hd m hm)) i hi h3
end
def kd4(E:Env)(a:List c7)(g:Option (Nat×Bool)):Option Bool :=
 match g with
 |none=>some true
 |some (d,want)=>match c9 E a (.t d) with
  |.v (.bool b)=>some (match want with | true=>b | false=>!b)
  |.v (.tuple _)=>some false
  |_=>none
section
variable{E:Env}{a a':List c7}{s s':St}{p:PI}
theorem Ic0{g:Option (Nat×Bool)}(h:Agr a a' (Hc1 g)):kd4 E a g=kd4 E a' g:=by
 cases g with
 |none=>rfl
 |some g =>
  obtain⟨d,want⟩:=g;simp only[kd4];rw[Agr.t (E:=E) (h d (by simp[Hc1]))]
theorem Oc6(he:(gb6 E s p).run=some s'):∃b,kd4 E s.a p.guard=some b/\(b=true->(jd9 E s p).run=some s')/\(b=false->s'=⟨putA s.a p.dst (.v (.tuple #[])),s.H⟩):=by
 obtain⟨dst,g,hide,op⟩:=p;cases g with
 |none=>exact⟨true,rfl,λ_=>he,λh=>by cases h⟩
 |some g =>
  obtain⟨d,want⟩:=g;rw[ed9] at he;simp only[kd4]
  revert he
  generalize c9 E s.a (.t d)=u;intro he
  split at he
  ·rename_i b
   rcases DT.run_ite_some he with⟨h1,h2⟩|⟨h1,h2⟩
   ·exact⟨true,congrArg some h1,λ_=>h2,λh=>by cases h⟩
   ·exact⟨false,congrArg some h1,λh=>by (cases h),λ_=>by simpa using h2.symm⟩
  ·exact⟨false,rfl,λh=>by (cases h),λ_=>by simpa using he.symm⟩
  ·cases he
theorem je0{ρ:Rho}{H:List c8}{F:Fz}{w:World}{ops:Array Oper}{o:Oper}{g:Option (Nat×Bool)}{tmps:Array Value}{b:Bool}(hg:ja6 ops o=some g)(hA:Fa4 ρ H F w a tmps)(ho:kd4 E a g=some b) :
  Region.wanted o (yielded ops tmps)=b:=by
 unfold ja6 at hg;unfold Region.wanted;cases hgo:o.guard with
 |none =>
  simp only[hgo] at hg ⊢;injection hg with hg;subst hg;injection ho
 |some jw =>
  obtain⟨j,want⟩:=jw;simp only[hgo] at hg ⊢;cases hj:ops[j]? with
  |none=>simp[hj] at hg
  |some oj =>
  simp only[hj] at hg;cases hd:oj.dst with
  |none=>simp[hd] at hg
  |some d =>
  simp only[hd] at hg;injection hg with hg;subst hg;have hrel:∀v,c9 E a (.t d)=.v v->tmps[d]?=some v:=λv hv=>by
   rw[Cb0] at hv
   rcases Qcs d a.length with hlt|hge
   ·rw[Qca hlt] at hv;have hlt':d<tmps.size:=hA.1 ▸ hlt;have h1:=hA.2 d _ _ (Qca hlt) (Qck hlt');simp only[Option.getD_some] at hv;rw[hv] at h1;rw[Qck hlt',ga5 h1]
   ·rw[Qcn hge] at hv;cases hv
  simp only[kd4] at ho
  revert ho hrel
  generalize c9 E a (.t d)=u;intro ho hrel
  split at ho
  ·rename_i b';rw[bc0 hj hd (hrel _ rfl)];injection ho with ho;subst ho;cases want<;>cases b'<;>rfl
  ·rename_i vs;rw[Rb9 hj hd (hrel _ rfl)];injection ho with ho
  ·cases ho
theorem je1(he:(jd9 E s p).run=some s'):∃x H',(evalOp E s.a (Gc6 s.H (wb8 s.a p.hide)) p.op).run=some (x,H')/\s'=⟨putA s.a p.dst x,wb9 s.H H' (wb8 s.a p.hide)⟩:=by
 unfold jd9 at he;obtain⟨⟨x,H1⟩,h1,h2⟩:=DT.run_bind_some he;have h2':some (⟨putA s.a p.dst x,H1⟩:St)=some s':=h2;injection h2' with h2';subst h2';cases hh:p.hide with
 |nil =>
  rw[hh] at h1;exact⟨x,H1,h1,rfl⟩
 |cons d l =>
  rw[hh] at h1;have h1':((evalOp E s.a (Gc6 s.H (wb8 s.a (d::l))) p.op).bind λr=>.ret (r.1,wb9 s.H r.2 (wb8 s.a (d::l)))).run=some (x,H1):=h1
  obtain⟨⟨y,H'⟩,h3,h4⟩:=DT.run_bind_some h1';have h4':some (y,wb9 s.H H' (wb8 s.a (d::l)))=some (x,H1):=h4;injection h4' with h4';injection h4' with e1 e2;subst e1 e2
  exact⟨y,H',h3,rfl⟩
end
def Pa0(ops:Array Oper)(j:Nat):Oper:=ops.getD j default
theorem xa4{ops:Array Oper}{j:Nat}(h:j<ops.size):ops[j]?=some (Pa0 ops j):=by simp[Pa0,Array.getD,h]
def Ic1(ops:Array Oper)(j:Nat):Option (Nat×Bool):=(ja6 ops (Pa0 ops j)).getD none
def R9(tr:Nat)(P:Program)(ops:Array Oper)(j:Nat):Nat:=Dc6 tr P ops (Pa0 ops j)
def ba7(tr:Nat)(P:Program)(ops:Array Oper)(j:Nat):PO:=Gb0 tr (Wb1 P ops (Pa0 ops j))
def qa7(ops:Array Oper)(j:Nat):Option Nat:=(Pa0 ops j).dst
def Bc5(tr:Nat)(P:Program)(ops:Array Oper)(M:List Nat)(j:Nat):PI:=⟨qa7 ops j,Ic1 ops j,if Nat.beq (R9 tr P ops j) 2 then Wc5 ops M j else [],ba7 tr P ops j⟩
theorem Ge8{tr:Nat}{P:Program}{ops:Array Oper}{M:List Nat}:∀{r:List Oper} {k:Nat} {ks:List (Nat×PI)},fe5 tr P ops M k r=some ks->∀(i:Nat) o,r[i]?=some o ->
  ∃g,ja6 ops o=some g/\ks[i]?=some (Dc6 tr P ops o,⟨o.dst,g,if Nat.beq (Dc6 tr P ops o) 2 then Wc5 ops M (k+i) else [],Gb0 tr (Wb1 P ops o)⟩)
 |[],k,ks,h,i,o,ho=>by simp at ho
 |o'::r,k,ks,h,i,o,ho=>by
  simp only[fe5] at h;cases h1:cPI tr P ops M k o' with
  |none=>simp[h1] at h
  |some x =>
  cases h2:fe5 tr P ops M (k+1) r with
  |none=>simp[h1,h2] at h
  |some l =>
  simp only[h1,h2] at h;injection h with h;subst h;cases i with
  |zero =>
   simp at ho
   subst ho;unfold cPI at h1;cases hg:ja6 ops o' with
   |none=>simp[hg] at h1
   |some g =>
    simp only[hg] at h1;injection h1 with h1;exact⟨g,rfl,by simp[<- h1]⟩
  |succ i =>
   obtain⟨g,h3,h4⟩:=Ge8 h2 i o (by simpa using ho)
   exact⟨g,h3,by rw[show k+(i+1)=k+1+i by omega];simpa using h4⟩
structure DC(tr:Nat)(P:Program)(ops:Array Oper)(M:List Nat)(ks:List (Nat×PI)):Prop where
 rows:Td9 ops M=true
 guard:∀j,j<ops.size->ja6 ops (Pa0 ops j)=some (Ic1 ops j)
 at':∀j,j<ops.size->ks[j]?=some (R9 tr P ops j,Bc5 tr P ops M j)
 one:∀j,j<ops.size->xc5 ops M ks j=true
section
variable{tr:Nat}{P:Program}{ops:Array Oper}{M:List Nat}{ks:List (Nat×PI)}
theorem Xc3{dsts:List Nat}{asq l:List PI}{ps:List (PO×PO)}(h:hb7 tr P ops=.draw dsts asq l ps) :
  ∃M ks,DC tr P ops M ks/\dsts=ops.toList.filterMap (·.dst)/\asq=(List.range ops.size).filterMap (Ob5 ks)/\l=(List.range ops.size).filterMap (Dc7 ks)/\ps=Oa0 ops.size M ks:=by
 unfold hb7 at h
 simp only at h
 cases hk:fe5 tr P ops (Region.before ops).toList 0 ops.toList with
 |none=>simp[hk] at h
 |some ks =>
 simp only[hk,rd7] at h
 split at h
 case h_2=>cases h
 rename_i hc;injection h with e1 e2 e3 e4;rw[Qcf] at hc;refine⟨_,ks,⟨hc.1,λj hj=>?_,λj hj=>?_,λj hj=>Qcm.1 hc.2 j (Qcp.2 hj)⟩,e1.symm,e2.symm,e3.symm,e4.symm⟩
 all_goals
  obtain⟨g,h1,h2⟩:=Ge8 hk j (Pa0 ops j) (by simpa using xa4 hj)
  have hg:Ic1 ops j=g:=by simp[Ic1,h1]
 ·rw[hg];exact h1
 ·rw[h2];simp only[Bc5,hg,Qcac,R9,ba7,qa7];rfl
theorem je2{dsts:List Nat}{asq l:List PI}{ps:List (PO×PO)}(h:Wa3 P ops=.draw dsts asq l ps) :
  ∃tr M ks,DC tr P ops M ks/\dsts=ops.toList.filterMap (·.dst)/\asq=(List.range ops.size).filterMap (Ob5 ks)/\l=(List.range ops.size).filterMap (Dc7 ks)/\ps=Oa0 ops.size M ks:=by
 unfold Wa3 at h
 split at h
 ·rename_i a b c d h1;injection h with e1 e2 e3 e4;subst e1 e2 e3 e4;exact⟨0,Xc3 h1⟩
 ·split at h
  ·rename_i a b c d h1;injection h with e1 e2 e3 e4;subst e1 e2 e3 e4;exact⟨1,Xc3 h1⟩
  ·exact⟨2,Xc3 h⟩
theorem Wb3(j:Nat):R9 tr P ops j=0\/R9 tr P ops j=1\/R9 tr P ops j=2:=by
 unfold R9 Dc6;split
 ·exact .inl rfl
 ·split
  ·exact .inr (.inl rfl)
  ·exact .inr (.inr rfl)
theorem je3{j:Nat}(h:R9 tr P ops j=1):pd0 (ba7 tr P ops j)=true:=by
 unfold R9 Dc6 at h
 split at h
 ·cases h
 ·split at h
  ·assumption
  ·cases h
theorem td7(o:PO):pd0 o=true\/pd3 o=true:=by cases o<;>first | exact .inl rfl | exact .inr rfl
theorem Oc7{j:Nat}(h:R9 tr P ops j=2):pd3 (ba7 tr P ops j)=true:=by
 unfold R9 Dc6 at h
 split at h
 ·cases h
 ·split at h
  ·cases h
  ·rename_i h2;exact (td7 _).resolve_left h2
theorem td8{j:Nat}(h:R9 tr P ops j=0):rb5 (Pa0 ops j)=true:=by
 unfold R9 Dc6 at h
 split at h
 ·assumption
 ·split at h<;>cases h
variable(hD:DC tr P ops M ks)
include hD
theorem DC.slots{i j d:Nat}(hi:i<ops.size)(hj:j<ops.size)(hd:qa7 ops i=some d) :
  (d∈Hc1 (Ic1 ops j)++Ob4 (ba7 tr P ops j)->C9 M i j=true\/(ac7 (ba7 tr P ops j)=true/\rb5 (Pa0 ops i)=false/\(C9 M j i=true\/i=j)))/\(i=j\/qa7 ops j≠some d):=by
 have h:=hD.one j hj;unfold xc5 at h;rw[hD.at' j hj] at h;simp only[Qcf] at h;have h1:=Qcm.1 h.1.1.1 i (Qcp.2 hi);have hd':(Pa0 ops i).dst=some d:=hd;simp only[xa4 hi,hd',Qcf,Qcae,Qcy] at h1;refine⟨λhm=>?_,?_⟩
 ·rcases h1.1 with (h2|h2)|h2
  ·have:(Hc1 (Ic1 ops j)++Ob4 (ba7 tr P ops j)).contains d=false:=h2
   rw[List.contains_iff_mem.2 hm] at this;cases this
  ·exact .inl h2
  ·exact .inr ⟨h2.1.1,h2.1.2,h2.2.imp id Qch⟩
 ·rcases h1.2 with h2|h2
  ·exact .inl (Qch h2)
  ·refine .inr λe=>?_
   have h3:(qa7 ops j != some d)=true:=h2;rw[e] at h3
   simp at h3
theorem DC.bare{j:Nat}(hj:j<ops.size):fe6 (ba7 tr P ops j)=true:=by
 have h:=hD.one j hj;unfold xc5 at h;rw[hD.at' j hj] at h;simp only[Qcf] at h;exact h.1.1.2
theorem DC.allocDst{j:Nat}(hj:j<ops.size)(h0:R9 tr P ops j=0):∃d,qa7 ops j=some d:=by
 have h:=hD.one j hj;unfold xc5 at h;rw[hD.at' j hj] at h;simp only[Qcf,Qcae,Qcy] at h
 rcases h.1.2 with h2|h2
 ·rw[h0] at h2;cases h2
 ·exact Qcl.1 h2
theorem DC.chain{i j:Nat}(hi:i<j)(hj:j<ops.size)(hki:R9 tr P ops i=2)(hkj:R9 tr P ops j=2):C9 M i j=true/\∀a,C9 M a i=true->C9 M a j=true:=by
 have h:=hD.one j hj;unfold xc5 at h;rw[hD.at' j hj] at h;simp only[Qcf,Qcae,Qcy] at h
 rcases h.2 with h2|h2
 ·rw[hkj] at h2;cases h2
 ·have h3:=Qcm.1 h2 i (Qcp.2 hi);rw[hD.at' i (by omega),hki] at h3
  simp only[Qcf] at h3;refine⟨h3.1,λa ha=>?_⟩
  have h4:=Qch h3.2;unfold C9 at ha ⊢;rw[<- h4,Nat.testBit_and,Qcf] at ha;exact ha.2
theorem DC.pair{i j:Nat}(hi:i<ops.size)(hj:j<ops.size)(hkj:R9 tr P ops j=1)(hki:R9 tr P ops i=2)(h1:C9 M i j=false)(h2:C9 M j i=false) :
  (ba7 tr P ops j,ba7 tr P ops i)∈Oa0 ops.size M ks:=by
 unfold Oa0;rw[Qcai];refine⟨j,Qcp.2 hj,?_⟩;rw[hD.at' j hj,hkj]
 simp only
 rw[List.mem_filterMap];refine⟨i,Qcp.2 hi,?_⟩;rw[hD.at' i hi,hki];simp[h1,h2,Bc5]
end
end Go.Ev
