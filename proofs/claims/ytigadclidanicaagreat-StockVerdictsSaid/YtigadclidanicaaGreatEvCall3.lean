/- Own work. -/
import Derived.Test.YtigadclidanicaaGreatEvMem
import Derived.Laws.StructEq
import Derived.ChangeKeysEq
set_option linter.all false
noncomputable section
def Qba:=@List.getElem?_append_right
def Qbb:=@List.getElem?_append_left
def Qbc:=@List.mem_of_getElem?
def Qbd:=@Option.isSome_iff_exists
def Qbe:=@List.getElem?_map
def Qbf:=@List.eq_nil_of_length_eq_zero
def Qbg:=@List.getElem?_drop
def Qbh:=@List.mem_cons
def Qbi:=@Nat.one_mul
def Qbj:=@List.mem_append_left
def Qbk:=@List.any_eq_false
def Qbl:=@Nat.ne_of_beq_eq_false
def Qbm:=@Option.map_eq_some_iff
def Qbn:=@List.length_replicate
def Qbo:=@Nat.mul_comm
def Qbp:=@List.map_cons
def Qbq:=@List.mem_map
def Qbr:=@Nat.mod_eq_of_lt
def Qbs:=@Nat.le_mul_of_pos_right
def Qbt:=@List.getElem?_replicate
def Qbu:=@List.append_nil
def Qbv:=@Nat.zero_le
def Qbw:=@Array.getElem?_extract
def Qbx:=@List.getElem?_set_self
def Qby:=@Array.getElem?_toList
def Qbz:=@List.length_flatten
namespace Go.Ev
open Go
section
variable{W:Nat->Prop}{ρ:Rho}{H H':List c7}{F:Fz}{w:World}{E:Env}{o:Oper}{a:List b7}{ac:Act}{x:b7}
theorem ce3{k m es:Nat}(h:k<m*es):k / es<m/\k % es<es/\k / es*es+k % es=k:=by
  have hes:0 < es:=by
    grind
  refine⟨Nat.div_lt_of_lt_mul (by rwa [Qbo] at h),Nat.mod_lt _ hes,?_⟩
  rw[Qbo];exact Nat.div_add_mod k es
structure ze1(F:Fz)(w:World)(es:Nat)(news:List (List b7))(x':Value)(nv:List Value):Prop where
  rows:∀(i:Nat) r,news[i]?=some r->r.length=es
  len:nv.length=news.length*es
  form:(x'=.slice none 0 0/\news=[])\/∃ad cap,x'=.slice (some ad) news.length cap/\(0<news.length->ad.spot=none)/\∀j v,nv[j]?=some v->w.cell? (ad.add j)=some v
  cell:∀(i:Nat) r (c:Nat) u,news[i]?=some r->r[c]?=some u->∃u',nv[i*es+c]?=some u'/\fa8 F w u u'
  one:∀u∈nv,u.oneCell'=true
theorem ze1.mk'{es:Nat}{news:List (List b7)}{ad:Addr}{cap:Nat}(hs:0<news.length->ad.spot=none)(f:Nat->Value)(rows:∀(i:Nat) r,news[i]?=some r->r.length=es)
    (hc:∀k,k<news.length*es->w.cell? ⟨ad.block,ad.off+k,none⟩=some (f k))
    (hr:∀(i:Nat) r (c:Nat) u,news[i]?=some r->r[c]?=some u->fa8 F w u (f (i*es+c))) :
    ze1 F w es news (.slice (some ad) news.length cap) ((List.range (news.length*es)).map f):=by
  refine⟨rows,by simp,.inr ⟨ad,cap,rfl,hs,λj v hj=>?_⟩,λi r c u h1 h2=>?_,λu hu=>?_⟩
  · obtain⟨h1,h2⟩:=eb5 hj
    have hpos:0 < news.length:=by
      grind
    rw[aa2 (hs hpos),hc j h1,h2]
  · have hi:=(Qab.1 h1).1
    have hcl:c<es:=by rw[<- rows i r h1];exact (Qab.1 h2).1
    have hlt:i*es+c < news.length*es:=by
      have:=Qaj es (show i+1<=news.length from hi)
      grind
    simp_all
  · obtain⟨k,hk,rfl⟩:=Qbq.1 hu
    have hk':k<news.length*es:=by simpa using hk
    obtain⟨h1,h2,h3⟩:=ce3 hk';have hlen:=rows (k / es) _ (Qaa h1)
    have:=hr (k / es) _ (k % es) _ (Qaa h1) (Qaa (by omega))
    rw[h3] at this;exact this.one
theorem Gd7(hH:J0 W ρ H F w){es:Nat}{y:b7}{y':Value}{news:List (List b7)}(hy:K8 ρ H F w y y')(he:elemsOf es H y=some news) :
    ∃nv,ze1 F w es news y' nv:=by
  revert he hy
  cases y with
  | sl id off n g =>
    intro hy he;simp only[elemsOf] at he;cases hbk:blkAt H id g with
    |none=>simp[hbk] at he
    |some b =>
    obtain⟨hb,hd,hg⟩:=H4 hbk;cases hbe:Nat.beq b.es es with
    |false=>simp[hbk,hbe] at he
    |true =>
    have hbes:=Qad hbe;simp only[hbk,hbe,J7,I9] at he;injection he with he;obtain⟨ad,cap,b',e,hb',hd',hg',hn,hspot,-,hh⟩:=lb3 hy
    have:b'=b:=Qag (hb'.symm.trans hb)
    subst this;obtain⟨h3,h4,h5⟩:=hh hg;obtain⟨cc,t,fr,hB⟩:=hH.blk id b' hb hd;have hnl:news.length=n:=by rw[<- he];simp;omega
    have hget:∀ (i:Nat) r,news[i]?=some r→i < n∧b'.elems[off+i]?=some r:=fun i r hr=>by
      rw[<- he] at hr
      rcases Qaq i n with hi|hi
      · rw[Qap,if_pos hi,Qbg] at hr;exact⟨hi,hr⟩
      · rw[Qat (by simp;omega)] at hr;cases hr
    rw[e,<- hnl];refine⟨_,ze1.mk' (λ_=>hspot) (λk=>cc.getD ((ρ id).off+(off*es+k)) undef) (λi r hr=>by rw[<- hbes];exact hB.rows _ r (hget i r hr).2) (λk hk=>?_) (λi r c u h1 h2=>?_)⟩
    · rw[hnl] at hk
      have hn0 : 0 < n := by rcases Qav n with h0 | h0; · subst h0; simp at hk
                             · exact h0
      have had:=h3.resolve_left (by omega)
      have hle:(off+n)*es<=b'.elems.length*b'.es:=by rw[hbes];exact Qaj _ h5
      rw[Qao] at hle
      have:=hB.len;have:=hB.room
      have hlt:(ρ id).off+(off*es+k)<cc.size:=by omega
      rw[had]
      simp only
      rw[hbes,Qal,hB.cellAt];simp[hlt]
    · obtain⟨hi,hr⟩:=hget i r h1
      obtain⟨x',h6,h7⟩:=hB.cell _ r c u hr h2;have e2:(ρ id).off+((off+i)*b'.es+c)=(ρ id).off+(off*es+(i*es+c)):=by rw[hbes,Qao];omega
      simp_all
  | tree es' n get =>
    intro hy he;simp only[elemsOf] at he;cases hbe:Nat.beq es' es with
    |false=>simp[hbe] at he
    |true =>
    have hbes:=Qad hbe;simp only[hbe,s8] at he;injection he with he;have ht:=Ea8 hy;cases ht with
    |tree _ _ _ ad cap cs hs hcap hes' hF hw hr =>
    have hnl:news.length=n:=by rw[<- he];simp
    have hget:∀ (i:Nat) r,news[i]?=some r→i < n∧get i=r:=fun i r hr=>by
      rw[<- he] at hr;exact eb5 hr
    conv=>arg 1;ext nv;rw[<- hnl]
    refine⟨_,ze1.mk' (λh=>hs (by omega)) (λk=>cs (k / es) (k % es)) (λi r hr=>by obtain⟨h1,h2⟩:=hget i r hr;rw[<- h2,hes' i h1,hbes]) (λk hk=>?_) (λi r c u h1 h2=>?_)⟩
    · rw[hnl] at hk
      obtain⟨h1,h2,h3⟩:=ce3 hk
      grind
    · obtain⟨hi,hgi⟩:=hget i r h1
      subst hgi;have hcl:=(Qab.1 h2).1;have hce:c<es:=by rw[<- hbes,<- hes' i hi];exact hcl
      have hd1:(i*es+c) / es=i:=by
        rw[Qbo,Nat.mul_add_div (by omega),Nat.div_eq_of_lt hce];omega
      have hd2:(i*es+c) % es=c:=by rw[Qbo,Nat.mul_add_mod,Qbr hce]
      grind
    | nil =>
      subst he;exact⟨[],λi r h=>by simp at h,by simp,.inl ⟨rfl,rfl⟩,λi r c u h=>by simp at h,λu h=>by simp at h⟩
  | v u =>
    intro hy he;have e:=fa0 hy;unfold elemsOf at he
    split at he
    · cases ‹b7.v u=_›
    · cases ‹b7.v u=_›
    · rename_i heq
      injection heq with heq;injection he with he;subst he;exact⟨[],λi r h=>by simp at h,by simp,.inl ⟨by rw[e,heq],rfl⟩,λi r c u h=>by simp at h,λu h=>by simp at h⟩
    · rename_i heq
      injection heq with heq;injection he with he;subst he;exact⟨[],λi r h=>by simp at h,by simp,.inr ⟨_,_,by rw[e,heq];rfl,λh=>absurd h (by simp),λj v h=>by simp at h⟩,λi r c u h=>by simp at h,λu h=>by simp at h⟩
    · cases he
  |_=>intro _ he;cases he
end
section
variable{W:Nat->Prop}{ρ:Rho}{H H':List c7}{F:Fz}{w:World}{E:Env}{o:Oper}{a:List b7}{ac:Act}{x:b7}
theorem wa5{P:Program}{t e:TypeId}{i:TypeInfo}(ty:TypeId)(ht:P.underlying t=some (.slice e))(hi:P.info? e=some i)(base xa:Option Addr)(n cap c:Nat)(hn:n<=cap)(w:World) :
  (Builtin.append_ #[t,t] ty #[.slice base n cap,.slice xa 0 c]).run P w=.ok (.slice base n cap) w:=by
 cases xa<;>cases base<;>simp[Builtin.append_,run_underlying ht,sizeOf,typeInfo,hi,Builtin.lenOf,Builtin.firstCells,hn,storeCells,Go.loadCells,loadCellsFrom]
section
variable(hA:Ia4 ρ H F w a ac.tmps)(hH:J0 W ρ H F w)(hG:GOk E F w)
include hA hH hG
theorem le8{t e:TypeId}{y z:Operand}{c:Call}(ho:o.op=.call c)(hcb:c.callee=.builtin .append)(hca:c.args=#[y,z])(hct:c.argTypes=#[t,t])
  (hu:E.P.underlying t=some (.slice e)) {ei:TypeInfo} (hei:E.P.info? e=some ei) {zv:Value} (hz:ei.zero=some zv) (hzs:zv.cells.size=ei.size) (hes:0<ei.size) (hbp:0<ei.bytes) (het:e≠0)
  (he:(evalOp E a H (.append e (szT E.P e) (byT E.P e) (o7 y) (o7 z))).run=some (x,H')):s4 E.P o ac w (U3 W ρ H F w x H'):=by
 have hy:=A9 hA hG y;have hzr:=A9 hA hG z;have hes':szT E.P e=ei.size:=by simp[szT,hei]
 have hby:byT E.P e=ei.bytes:=by simp[byT,hei]
 rw[hes',hby] at he;simp only[evalOp,appendA] at he;cases hel:elemsOf ei.size H (c9 E a (o7 z)) with
 |none=>simp[hel] at he
 |some news =>
 simp only[hel,z6] at he;obtain⟨nv,hN⟩:=Gd7 hH hzr hel;have hrun:∀{r:Value} {w':World},(Builtin.append_ #[t,t] o.type #[ac.eval y,ac.eval z]).run E.P w=.ok r w'->(execOp ac.eval o).run E.P w=.ok (.value r) w':=λ{r w'} h=>by
  unfold execOp;simp[ho,hcb,hca,hct,resolve,invoke,builtin,h]
 have hmax:∀m,m*ei.bytes<=room->m<=maxLen:=λm h=>by
  have:m<=room:=Qai (Qbs m hbp) h
  unfold room at this;unfold maxLen;omega
 revert he hy
 generalize c9 E a (o7 y)=p;intro hy he
 split at he
 ·-- nil
  have e0:=fa0 hy
  rcases DT.run_ite_some he with⟨h0,he⟩|⟨h0,he⟩
  ·have h0:=Qad h0;have he':=Qag he;injection he' with e1 e2;subst e1 e2
   have hnil:news=[]:=Qbf h0
   rcases hN.form with⟨hx,_⟩|⟨ad,cap,hx,_,_⟩
   ·exact .value (hrun (by rw[e0,hx];exact wa5 _ hu hei none none 0 0 0 (Qaf _) w)) (.stay hH (.ofv _))
   ·exact .value (hrun (by rw[e0,hx,h0];exact wa5 _ hu hei none (some ad) 0 0 cap (Qaf _) w)) (.stay hH (.ofv _))
  ·have h0:news.length≠0:=Qbl h0;obtain⟨hb,he⟩:=DT.run_guard_some he;have hb:news.length*ei.bytes<=room:=Qae hb;have he':=Qag he;injection he' with e1 e2;subst e1 e2
   rcases hN.form with⟨_,hx⟩|⟨ad,cap,hx,hsp,hcells⟩
   ·simp[hx] at h0
   ·obtain ⟨v', w', hr, hown, hgrow, _, hblk⟩ := run_append_own_at (P := E.P) w w.heap.size t o.type e ei zv ei.size ei.bytes hu hei hz rfl rfl hzs hes (.slice none 0 0) 0 [] ⟨by simp, .inl ⟨rfl, rfl⟩⟩
     ad news.length cap nv hN.len hcells hN.one (by rw[Qar];exact hmax _ hb) (by rw[Qar];exact hb) (Qaf _)
    rcases hown.2 with⟨_,h1⟩|⟨gb,cap',cur,rfl,hbg,hg,hnc,hcm,hcs,htake⟩
    ·omega
    have hcur:∀(j:Nat) u,nv[j]?=some u->cur[j]?=some u:=λj u hj=>by
     have hlt:=(Qab.1 hj).1;have h2:(cur.toList.take ((0+news.length)*ei.size))[j]?=some u:=by rw[htake];simpa using hj
     rw[Qap] at h2
     split at h2
     ·simpa using h2
     ·cases h2
    obtain⟨h3,h4⟩:=hH.newAt hgrow.os hgrow.tape hgrow.output (be9 _ _ _ hr) hgrow.size (λk hk=>hgrow.block k hk (by simp[Value.ownBlock])) gb hbg e ei.size news cur e hg hN.rows
     (by rw[hcs];exact Qaj _ (by omega)) (λi r c u h1 h2=>by obtain⟨u',h5,h6⟩:=hN.cell i r c u h1 h2;exact⟨u',hcur _ _ h5,h6⟩) (λ_=>rfl)
    refine .value (hrun (by rw[e0,hx];exact hr)) ?_
    rw[nd7];refine⟨_,F,h3,h4,.val (.cell ?_)⟩;rw[Qar];refine .sl _ _ _ _ _ _ { et:=e,es:=ei.size,elems:=news,own:=true,dead:=false,g:=0 } (by simp) rfl (Qaf _) (by omega) rfl hcm λ_=>⟨.inr ?_,?_,by simp⟩
    ·simp[ρnew]
    ·simp[ρnew,hcs]
 ·-- a slice of its own
  rename_i id off n g;cases hbk:blkAt H id g with
  |none=>simp[hbk] at he
  |some b =>
  obtain⟨hb,hd,hg⟩:=H4 hbk;simp only[hbk] at he;cases hc4:(b.own&&Nat.beq off 0&&Nat.beq b.es ei.size&&Nat.beq b.et e) with
  |false=>simp[hc4] at he
  |true =>
  simp only[hc4] at he;simp only[Qas] at hc4;obtain⟨⟨⟨hown0,hoff⟩,hbes⟩,hbet⟩:=hc4;have hoff:=Qad hoff;have hbes:=Qad hbes;have hbet:=Qad hbet;subst hoff;obtain⟨ad0,cap0,b',e0,hb',hd',hg',hn,hspot,hcm0,hh⟩:=lb3 hy
  have:b'=b:=Qag (hb'.symm.trans hb)
  subst this;obtain⟨h3,h4,h5⟩:=hh hg;obtain⟨hbb,he⟩:=DT.run_guard_some he;simp only[Qas] at hbb;obtain⟨hnl,hbb⟩:=hbb;have hnl:=Qad hnl;have hbb:(n+news.length)*ei.bytes<=room:=Qae hbb;have he':=Qag he;injection he' with e1 e2;subst e1 e2
  rw[H6,K6];by_cases h0:news.length=0
  ·obtain⟨cc,tt,fr,hB⟩:=hH.blk id b' hb hd;obtain⟨hfr,hW,hoff0,hsize,hnF,htt⟩:=hB.own hown0;subst hfr;have htt':tt=e:=by rw[<- hbet];exact htt (by rw[hbet];exact het)
   have hid:id<H.length:=(Qab.1 hb).1;have hnil:news=[]:=Qbf h0;subst hnil;have hoffz:(ρ id).off=0:=hoff0;obtain⟨h6,h7⟩:=hH.moveAt id b' { b' with elems:=b'.elems++[],g:=g+1 } hb hd hown0 rfl rfl rfl (Qaf _) (Qaf _)
    (λk hk hne=>rfl) (ρ id).blk (.inl rfl) cc tt hB.obj hown0 hd (by simp;omega) (λh=>htt h)
    (λi r hr=>by simp only[Qbu] at hr ⊢;exact hB.rows i r hr)
    (by simp only[Qbu];have:=hB.len;omega)
    (λi r k u hr hu=>by
     simp only[Qbu] at hr ⊢;obtain⟨u',h8,h9⟩:=hB.cell i r k u hr hu;rw[hoffz,Qar] at h8;exact⟨u',h8,h9⟩)
   have hval:(execOp ac.eval o).run E.P w=.ok (.value (ac.eval y)) w:=by
    rcases hN.form with⟨hx,_⟩|⟨ad,cap,hx,_,_⟩
    ·exact hrun (by rw[e0,hx];exact wa5 _ hu hei (some ad0) none n cap0 0 hn w)
    ·exact hrun (by rw[e0,hx];exact wa5 _ hu hei (some ad0) (some ad) n cap0 cap hn w)
   refine .value hval ⟨_,F,h6,h7,?_⟩;rw[e0];refine .val (.cell (.sl _ _ _ _ _ _ { b' with elems:=b'.elems++[],g:=g+1 } (by simp[hid]) hd (Qaf _) (by simpa using hn) hspot hcm0 λ_=>⟨.inr ?_,?_,by simp;omega⟩))
   ·have:=h3.resolve_left (by omega)
    rw[this];simp[ρset,hoffz]
   ·simp only[ρset,if_true,Qar] at h4 ⊢;rw[h4,hsize]
  ·rcases hN.form with⟨_,hx⟩|⟨ad,cap,hx,hsp,hcells⟩
   ·simp[hx] at h0
   obtain⟨cc,tt,fr,hB⟩:=hH.blk id b' hb hd;obtain⟨hfr,hW,hoff0,hsize,hnF,htt⟩:=hB.own hown0;subst hfr;have htt':tt=e:=by rw[<- hbet];exact htt (by rw[hbet];exact het)
   have had:ad0=⟨(ρ id).blk,0,none⟩:=by
    grind
   have hcap:cap0*ei.size=cc.size:=by rw[<- hsize,<- h4,hbes];simp
   have hxl:(cc.toList.take (n*ei.size)).length=n*ei.size:=by
    have:n*ei.size<=cap0*ei.size:=Qaj _ hn
    simp;omega
   obtain⟨v',w',hr,hown,hgrow,_,hblk⟩:=run_append_own_at (P:=E.P) w 0 t o.type e ei zv ei.size ei.bytes hu hei hz rfl rfl hzs hes (.slice (some ⟨(ρ id).blk,0,none⟩) n cap0) n (cc.toList.take (n*ei.size))
    ⟨hxl,.inr ⟨(ρ id).blk,cap0,cc,rfl,Qbv _,by rw[<- htt'];exact hB.obj,hn,hcm0,hcap.symm,rfl⟩⟩
    ad news.length cap nv hN.len hcells hN.one (hmax _ hbb) hbb (Qbv _)
   rcases hown.2 with⟨_,h1⟩|⟨gb,cap',cur,rfl,_,hgo,hnc,hcm,hcs,htake⟩
   ·omega
   have hgb:gb=(ρ id).blk\/w.heap.size<=gb:=by
    rcases hblk with h|h<;>simp[Value.ownBlock] at h<;>omega
   have hcur:∀(j:Nat) u,(cc.toList.take (n*ei.size)++nv)[j]?=some u->cur[j]?=some u:=λj u hj=>by
    rw[<- htake,Qap] at hj
    split at hj
    ·simpa using hj
    ·cases hj
   have hoffz:(ρ id).off=0:=hoff0;obtain⟨h6,h7⟩:=hH.moveAt id b' { b' with elems:=b'.elems++news,g:=g+1 } hb hd hown0 hgrow.os hgrow.tape hgrow.output (be9 _ _ _ hr) hgrow.size
    (λk hk hne=>hgrow.block k hk (by simp[Value.ownBlock];exact hne)) gb hgb cur e hgo hown0 hd (by simp;omega) (λ_=>hbet.symm)
    (λi r hr=>by
     simp only at hr ⊢
     rcases Qaq i b'.elems.length with hi|hi
     ·rw[Qbb hi] at hr;exact hB.rows i r hr
     ·rw[Qba hi] at hr;rw[hbes];exact hN.rows _ r hr)
    (by simp only[List.length_append];rw[hbes,hcs,<- hnl];exact Qaj _ hnc)
    (λi r k u hr hu=>by
     simp only at hr ⊢
     rcases Qaq i b'.elems.length with hi|hi
     ·rw[Qbb hi] at hr;obtain⟨u',h8,h9⟩:=hB.cell i r k u hr hu;rw[hoffz,Qar] at h8;have hk:k<ei.size:=by rw[<- hbes,<- hB.rows i r hr];exact (Qab.1 hu).1
      have hlt:i*b'.es+k<n*ei.size:=by
       have:=Qaj ei.size (show i+1<=n by omega)
       rw[Qao,Qbi] at this;rw[hbes];omega
      refine⟨u',hcur _ _ ?_,h9⟩;rw[Qbb (by omega),Qap,if_pos hlt]
      simpa using h8
     ·rw[Qba hi] at hr;obtain⟨u',h8,h9⟩:=hN.cell _ r k u hr hu;refine⟨u',hcur _ _ ?_,h9⟩;have e9:i*b'.es=n*ei.size+(i-b'.elems.length)*ei.size:=by rw[<- Qao,hbes];congr 1;omega
      rw[Qba (by omega),hxl,show i*b'.es+k-n*ei.size=(i-b'.elems.length)*ei.size+k by omega]
      exact h8)
   have hid:id<H.length:=(Qab.1 hb).1;refine .value (hrun (by rw[e0,had,hx];exact hr)) ⟨_,F,h6,h7,.val (.cell (.sl _ _ _ _ _ _ { b' with elems:=b'.elems++news,g:=g+1 } (by simp[hid]) hd (Qaf _) hnc rfl hcm λ_=>⟨.inr ?_,?_,by simp;omega⟩))⟩
   ·simp[ρset]
   ·simp only[ρset,if_true,Qar,hbes,hcs]
 ·cases he
end
end
section
variable{W:Nat->Prop}{ρ:Rho}{H H':List c7}{F:Fz}{w:World}{E:Env}{o:Oper}{a:List b7}{ac:Act}{x:b7}
theorem ze2(off:Nat):∀(l:List Value) (s:Nat) (cells:Array Value) (k:Nat),off+s+l.length<=cells.size ->
  ((l.zipIdx s).foldl (λcs (p:Value×Nat)=>cs.setIfInBounds (off+p.2) p.1) cells).size=cells.size /\
  ((l.zipIdx s).foldl (λcs (p:Value×Nat)=>cs.setIfInBounds (off+p.2) p.1) cells)[k]?=if off+s<=k/\k<off+s+l.length then l[k-(off+s)]? else cells[k]?
 |[],s,cells,k,_=>by
  refine⟨rfl,?_⟩;rw[if_neg (by simp)]
  rfl
 |v::l,s,cells,k,h=>by
  have ih:=ze2 off l (s+1) (cells.setIfInBounds (off+s) v) k (by simp at h ⊢;omega)
  simp only[List.zipIdx_cons,List.foldl_cons]
  grind
theorem jf8(cells:Array Value)(vs:Array Value)(off k:Nat)(h:off+vs.size<=cells.size) :
  (vs.zipIdx.foldl (λcs (p:Value×Nat)=>cs.setIfInBounds (off+p.2) p.1) cells).size=cells.size /\
  (vs.zipIdx.foldl (λcs (p:Value×Nat)=>cs.setIfInBounds (off+p.2) p.1) cells)[k]?=if off<=k/\k<off+vs.size then vs[k-off]? else cells[k]?:=by
 have:=ze2 off vs.toList 0 cells k (by simpa using h)
 rw[<- Array.foldl_toList];simpa using this
theorem le9(place:Nat->Option (Nat×Nat)):∀(parts:List (Nat×Nat×b7)) (parts':List (Nat×Value)) (cells:List b7) (cells':Array Value) (cs:List b7),
  parts.length=parts'.length->(∀(i:Nat) p p',parts[i]?=some p->parts'[i]?=some p'->place p'.1=some (p.1,p.2.1)/\K8 ρ H F w p.2.2 p'.2) ->
  cells.length=cells'.size->(∀(i:Nat) x x',cells[i]?=some x->cells'[i]?=some x'->ea9 ρ H F w x x')->wc4 cells parts=some cs ->
  ∃cs',Instr.fill place cells' parts'=some cs'/\cs'.size=cells'.size/\cs.length=cells.length/\∀(i:Nat) x x',cs[i]?=some x->cs'[i]?=some x'->ea9 ρ H F w x x'
 |[],parts',cells,cells',cs,hl,_,hc,hr,he=>by
  have:parts'=[]:=Qbf (by simpa using hl.symm)
  subst this;simp only[wc4] at he;injection he with he;subst he;exact⟨cells',rfl,rfl,rfl,hr⟩
 |(off,size,y)::parts,parts',cells,cells',cs,hl,hp,hc,hr,he=>by
  cases parts' with
  |nil=>simp at hl
  |cons p' parts' =>
  obtain⟨i0,y'⟩:=p';obtain⟨hpl,hy⟩:=hp 0 _ _ rfl rfl
  simp only at hpl hy
  simp only[wc4,z6] at he;cases hb:(xb3 y&&Nat.beq (L8 y).length size&&Nat.ble (off+size) cells.length) with
  |false=>simp[hb] at he
  |true =>
  simp only[hb] at he;simp only[Qas] at hb;obtain⟨⟨h1,h2⟩,h3⟩:=hb;have h2:=Qad h2;have h3:off+size<=cells.length:=Qae h3;obtain⟨h4,h5⟩:=Oc3 hy h1;have h4':(L8 y).length=y'.cells.size:=by simpa using h4
  have hfit:off+(L8 y).length<=cells.length:=by omega
  have hstep:=λk=>jf8 cells' y'.cells off k (by omega)
  obtain⟨cs',h6,h7,h8,h9⟩:=le9 place parts parts' (Q0 cells off (L8 y)) (y'.cells.zipIdx.foldl (λcs (p:Value×Nat)=>cs.setIfInBounds (off+p.2) p.1) cells') cs
   (by simpa using hl) (λi p p' h h'=>hp (i+1) p p' (by simpa using h) (by simpa using h')) (by rw[Bb5 hfit,(hstep 0).1];exact hc)
   (λk u u' hu hu'=>by
    rw[(hstep k).2] at hu'
    rcases Xc5 hfit hu with⟨g1,g2,g3⟩|⟨g1,g3⟩
    ·rw[if_pos (by omega)] at hu'
     exact h5 _ u u' g3 (by simpa using hu')
    ·rw[if_neg (by omega)] at hu'
     exact hr k u u' g3 hu') he
  refine⟨cs',?_,h7.trans (hstep 0).1,by rw[h8,Bb5 hfit],h9⟩
  unfold Instr.fill
  simp_all
theorem ce4{P:Program}{t:TypeId}:∀{ps:List (Nat×Operand)} {l:List (Nat×Nat×Arg)},xb4 P t ps=some l ->
  l.length=ps.length/\∀(i:Nat) p q,l[i]?=some p->ps[i]?=some q->Xc1 P t q.1=some (p.1,p.2.1)/\p.2.2=o7 q.2
 |[],l,h=>by
  simp only[xb4] at h
  simp_all
 |(i0,y)::ps,l,h=>by
  simp only[xb4] at h;cases hp:Xc1 P t i0 with
  |none=>simp[hp] at h
  |some os =>
  obtain⟨off,size⟩:=os;simp only[hp] at h;cases hc:xb4 P t ps with
  |none=>simp[hc] at h
  |some r =>
  simp only[hc] at h;injection h with h;subst h;obtain⟨h1,h2⟩:=ce4 hc
  grind
theorem Uc1{α β:Type}{P:Program}(g:α->Sem β)(h:α->β)(w:World):∀(l:List α),(∀y∈l,(g y).run P w=.ok (h y) w)->(l.mapM g).run P w=.ok (l.map h) w
 |[],_=>by simp
 |y::l,hy=>by
  have ih:=Uc1 g h w l (λz hz=>hy z (by simp[hz]))
  simp_all
theorem dd1{α β:Type}{P:Program}(g:α->Sem β)(h:α->β)(w:World)(l:Array α)(hl:∀y∈l,(g y).run P w=.ok (h y) w):(l.mapM g).run P w=.ok (l.map h) w:=by
 rw[Array.mapM_eq_mapM_toList]
 have:=Uc1 g h w l.toList (λy hy=>hl y (by simpa using hy))
 simp only[Sem.run_map,this,Result.andThen_ok];congr 1;apply Array.ext';simp
section
variable(hA:Ia4 ρ H F w a ac.tmps)(hH:J0 W ρ H F w)(hG:GOk E F w)
include hA hH hG
omit hH in
theorem ce5{ps:List (Nat×Operand)}{t:TypeId}{l:List (Nat×Nat×Arg)}(hc:xb4 E.P t ps=some l) :
  (s5 (λp=>(p.1,p.2.1,c9 E a p.2.2)) l).length=(ps.map λp=>(p.1,ac.eval p.2)).length /\
  ∀(i:Nat) p p',(s5 (λp=>(p.1,p.2.1,c9 E a p.2.2)) l)[i]?=some p->(ps.map λp=>(p.1,ac.eval p.2))[i]?=some p'->Xc1 E.P t p'.1=some (p.1,p.2.1)/\K8 ρ H F w p.2.2 p'.2:=by
 obtain⟨h1,h2⟩:=ce4 hc;rw[s8];refine⟨by simp[h1],λi p p' hp hp'=>?_⟩
 rw[Qbe] at hp hp';cases hl:l[i]? with
 |none=>simp[hl] at hp
 |some q =>
 cases hq:ps[i]? with
 |none=>simp[hq] at hp'
 |some q' =>
 simp[hl] at hp;simp[hq] at hp';subst hp hp';obtain⟨h3,h4⟩:=h2 i q q' hl hq;exact⟨h3,by simp only[h4];exact A9 hA hG q'.2⟩
omit hA hG hH in
theorem lb5{t:TypeId}{z:List b7}(hz:zeT E.P t=some z):∃i zv,E.P.info? t=some i/\i.zero=some zv/\z=zv.cells.toList.map .v/\(∀u∈zv.cells.toList,u.oneCell'=true):=by
 unfold zeT at hz;cases hi:E.P.info? t with
 |none=>simp[hi] at hz
 |some i =>
 cases hzz:i.zero with
 |none=>simp[hi,hzz] at hz
 |some zv =>
 simp only[hi,hzz] at hz
 split at hz
 ·rename_i hall;injection hz with hz;exact⟨i,zv,rfl,hzz,hz.symm,λu hu=>by rw[<- Oc0];exact List.all_eq_true.1 hall u hu⟩
 ·cases hz
theorem ze3{t:TypeId}{ps:Array (Nat×Operand)}{z:List b7}{l:List (Nat×Nat×Arg)}(ho:o.op=.build t ps)(hz:zeT E.P t=some z)(hc:xb4 E.P t ps.toList=some l)(hall:le3 E.P t=true)
  (he:(evalOp E a H (.build z l)).run=some (x,H')):s4 E.P o ac w (U3 W ρ H F w x H'):=by
 simp only[evalOp] at he;cases hf:wc4 z (s5 (λp=>(p.1,p.2.1,c9 E a p.2.2)) l) with
 |none=>rw[hf] at he;cases he
 |some cs =>
 rw[hf] at he;have he':=Qag he;injection he' with e1 e2;subst e1 e2
 obtain⟨ti,zv,hi,hzz,rfl,hone⟩:=lb5 hz;obtain⟨hl1,hl2⟩:=ce5 hA hG hc;have hfill:=λplace hpl=>le9 (ρ:=ρ) (H:=H) (F:=F) (w:=w) place _ (ps.toList.map λp=>(p.1,ac.eval p.2)) (zv.cells.toList.map .v) zv.cells cs hl1 hpl (by simp)
  (λi u u' h h'=>by
   rw[Qbe] at h
   have:zv.cells.toList[i]?=some u':=by simpa using h'
   rw[this] at h
   simp at h
   subst h;exact .v _) hf
 unfold le3 at hall;cases hu:E.P.underlying t with
 |none=>simp[hu] at hall
 |some d =>
 cases d with
 |struct fs =>
  simp only[hu] at hall;have hmap:(fs.mapM λf=>(do pure (f.offset,<- sizeOf f.type):Sem (Nat×Nat))).run E.P w=.ok (fs.map λf=>(f.offset,szT E.P f.type)) w:=by
   refine dd1 _ _ w fs λf hf=>?_
   have hsome:=Array.all_eq_true_iff_forall_mem.1 hall f hf;obtain⟨fi,hfi⟩:=Qbd.1 hsome;simp[sizeOf,typeInfo,hfi,szT]
  obtain⟨cs',h1,h2,h3,h4⟩:=hfill (λi=>(fs.map λf=>(f.offset,szT E.P f.type))[i]?) (λi p p' hp hp'=>by
   obtain⟨h1,h2⟩:=hl2 i p p' hp hp';refine⟨?_,h2⟩;unfold Xc1 at h1;simp only[hu] at h1;cases hfi:fs[p'.1]? with
   |none=>simp[hfi] at h1
   |some f=>simp[hfi] at h1 ⊢;exact h1)
  refine .value (x':=.agg cs') (w':=w) ?_ (.stay hH (.val (.agg cs cs' (by rw[h3,h2];simp) h4)))
  have hps:(ps.map λ(p:Nat×Operand)=>(p.1,ac.eval p.2)).toList=ps.toList.map λp=>(p.1,ac.eval p.2):=by simp
  have hb:(Instr.build t (ps.map λ(p:Nat×Operand)=>(p.1,ac.eval p.2))).run E.P w=.ok (.agg cs') w:=by
   unfold Instr.build;simp only[Sem.run_bind,zeroValue,typeInfo,run_program,Result.andThen_ok,hi,Sem.run_pure,hzz,run_underlying hu,hmap,hps,h1]
  simp only[execOp,ho,Sem.run_bind,hb,Result.andThen_ok,Sem.run_pure]
 |array n e =>
  simp only[hu] at hall;obtain⟨ei,hei⟩:=Qbd.1 hall;obtain⟨cs',h1,h2,h3,h4⟩:=hfill (λi=>some (i*ei.size,ei.size)) (λi p p' hp hp'=>by
   obtain⟨h1,h2⟩:=hl2 i p p' hp hp';refine⟨?_,h2⟩;unfold Xc1 at h1;simp only[hu,szT,hei] at h1;exact h1)
  refine .value (x':=.agg cs') (w':=w) ?_ (.stay hH (.val (.agg cs cs' (by rw[h3,h2];simp) h4)))
  have hps:(ps.map λ(p:Nat×Operand)=>(p.1,ac.eval p.2)).toList=ps.toList.map λp=>(p.1,ac.eval p.2):=by simp
  have hb:(Instr.build t (ps.map λ(p:Nat×Operand)=>(p.1,ac.eval p.2))).run E.P w=.ok (.agg cs') w:=by
   unfold Instr.build;simp only[Sem.run_bind,zeroValue,typeInfo,run_program,Result.andThen_ok,hi,Sem.run_pure,hzz,run_underlying hu,sizeOf,hei,hps,h1]
  simp only[execOp,ho,Sem.run_bind,hb,Result.andThen_ok,Sem.run_pure]
 |_=>simp[hu] at hall
omit hA hG hH in
theorem Gd8(es:Nat):∀(n:Nat) (l:List b7),n*es<=l.length->(Sa3 es n l).length=n/\∀(i:Nat) r,(Sa3 es n l)[i]?=some r->r=(l.drop (i*es)).take es/\i<n
 |0,l,_=>⟨rfl,λi r h=>by simp[Sa3] at h⟩
 |n+1,l,h=>by
  rw[Qao,Qbi] at h;obtain⟨h1,h2⟩:=Gd8 es n (l.drop es) (by simp;omega)
  have e:Sa3 es (n+1) l=l.take es::Sa3 es n (l.drop es):=by simp[Sa3,J7,I9]
  rw[e];refine⟨by simp[h1],λi r hr=>?_⟩
  cases i with
  |zero=>simp at hr;subst hr;simp
  |succ i =>
   obtain⟨h3,h4⟩:=h2 i r (by simpa using hr)
   refine⟨?_,by omega⟩
   rw[h3,List.drop_drop,Qao,Qbi,Nat.add_comm es]
omit hA hG hH in
theorem J0.allocRow(h:J0 W ρ H F w)(et es n:Nat)(cs:List b7)(vs:Array Value)(cap:Nat)(hes:0<es)(hl:cs.length=n*es)(hcap:vs.size=cap*es)(hn:n<=cap)(hm:cap<=maxLen)
  (hr:∀(i:Nat) z z',cs[i]?=some z->vs[i]?=some z'->fa8 F w z z') :
  U3 W ρ H F w (.sl H.length 0 n 0) (Ea6 H et es (Sa3 es n cs)) (.slice (some ⟨w.heap.size,0,none⟩) n cap) (w.alloc (.cells vs et)):=by
 obtain⟨hc1,hc2⟩:=Gd8 es n cs (by omega)
 have hle:n*es<=cap*es:=Qaj _ hn
 obtain ⟨h1, h2⟩ := h.alloc et es (Sa3 es n cs) vs et (fun i r hr' => by
   obtain⟨h3,h4⟩:=hc2 i r hr'
   have:=Qaj es (show i+1<=n from h4)
   rw[Qao,Qbi] at this;rw[h3];simp;omega) (by rw[hc1,hcap];exact hle) (λi r c z hr' hz=>by
   obtain⟨h3,h4⟩:=hc2 i r hr';subst h3;have hcl:c<es:=by
    have:=(Qab.1 hz).1
    simp at this
    omega
   rw[Qap,if_pos hcl,Qbg] at hz;have hlt:i*es+c<vs.size:=by have:=(Qab.1 hz).1;omega
   exact⟨vs[i*es+c],by simp[hlt],hr _ z _ hz (by simp[hlt])⟩) (λ_=>rfl)
 rw[nd7];refine⟨_,F,h1,h2,.val (.cell (.sl _ _ _ _ _ _ { et,es,elems:=Sa3 es n cs,own:=true,dead:=false,g:=0 } (by simp) rfl (Qaf _) hn rfl hm λ_=>⟨.inr ?_,?_,by simp[hc1]⟩))⟩
 ·simp[ρnew]
 ·simp[ρnew,hcap]
omit hA hG hH in
theorem dc4(z:List b7):∀(n k:Nat),0<z.length->k<n*z.length->((List.replicate n z).flatten)[k]?=z[k % z.length]?
 |0,k,_,h=>by simp at h
 |n+1,k,hz,h=>by
  rw[List.replicate_succ,List.flatten_cons]
  rcases Qaq k z.length with hk|hk
  ·rw[Qbb hk,Qbr hk]
  ·rw[Qba hk];rw[Qao,Qbi] at h;rw[dc4 z n (k-z.length) hz (by omega)]
   congr 1
   conv=>rhs;rw[show k=k-z.length+z.length by omega,Nat.add_mod_right]
theorem me0{t e:TypeId}{n:Nat}{ps:Array (Nat×Operand)}{z:List b7}{l:List (Nat×Nat×Arg)}(ho:o.op=.buildSlice t n ps)(hu:E.P.underlying t=some (.slice e))(hz:zeT E.P e=some z)(hc:xb4 E.P t ps.toList=some l)
  (hlim:n*szT E.P e<=16777216) (hzl:z.length=szT E.P e) (hpos:0<szT E.P e)
  (he:(evalOp E a H (.bslice e (szT E.P e) n (List.replicate n z).flatten l)).run=some (x,H')):s4 E.P o ac w (U3 W ρ H F w x H'):=by
 simp only[evalOp] at he;cases hf:wc4 (List.replicate n z).flatten (s5 (λp=>(p.1,p.2.1,c9 E a p.2.2)) l) with
 |none=>rw[hf] at he;cases he
 |some cs =>
 simp only[hf] at he;cases hfr:freezeCells H cs with
 |none=>rw[hfr] at he;cases he
 |some q =>
 obtain⟨cs2,H1⟩:=q;simp only[hfr,z6] at he;have he':=Qag he;injection he' with e1 e2;subst e1 e2
 obtain⟨ti,zv,hi,hzz,rfl,hone⟩:=lb5 hz;have hts:szT E.P e=ti.size:=by simp[szT,hi]
 rw[hts] at hzl hpos hlim;have hzs:zv.cells.size=ti.size:=by simpa using hzl
 obtain⟨hl1,hl2⟩:=ce5 hA hG hc
 let cells0:Array Value:=(Array.range (n*ti.size)).map (zv.cells[· % zv.cells.size]!)
 have hflen:((List.replicate n (zv.cells.toList.map b7.v)).flatten).length=n*ti.size:=by simp[Qbz,hzs]
 obtain ⟨cs', h1, h2, h3, h4⟩ := le9 (ρ := ρ) (H := H) (F := F) (w := w) (fun i => some (i * ti.size, ti.size)) _ (ps.toList.map fun p => (p.1, ac.eval p.2)) _ cells0 cs hl1 (fun i p p' hp hp' => by
   obtain⟨h1,h2⟩:=hl2 i p p' hp hp';refine⟨?_,h2⟩;unfold Xc1 at h1;simp only[hu,szT,hi] at h1;exact h1) (by rw[hflen];simp[cells0]) (λk u u' hk hk'=>by
   have hlt:k<n*ti.size:=by have:=(Qab.1 hk).1;omega
   rw[dc4 _ n k (by simp;omega) (by simp[hzs];exact hlt)] at hk
   simp[hzs] at hk;obtain⟨b,hb1,rfl⟩:=hk;simp[cells0,hlt,hzs] at hk';rw[getElem!_def,hb1] at hk'
   simp at hk'
   subst hk';exact .v _) hf
 have hvs:cs'.size=n*ti.size:=by rw[h2];simp[cells0]
 obtain⟨F1,a1,hH1,h5,h6,h7⟩:=Rb1 hH (vs:=cs'.toList) (by rw[h3,hflen];simp[hvs]) (λi y y' hy hy'=>h4 i y y' hy (by simpa using hy')) hfr
 have hb:(Instr.buildSlice t n (ps.map λ(p:Nat×Operand)=>(p.1,ac.eval p.2))).run E.P w=.ok (.slice (some ⟨w.heap.size,0,none⟩) n n) (w.alloc (.cells cs' e)):=by
  have hps:(ps.map λ(p:Nat×Operand)=>(p.1,ac.eval p.2)).toList=ps.toList.map λp=>(p.1,ac.eval p.2):=by simp
  unfold Instr.buildSlice;have hlim':¬ (n*ti.size>2 ^ 24):=by omega
  by_cases h0:n*ti.size=0
  ·have hn0 : n = 0 := by
    rcases Qav n with h|h
    ·exact h
    ·have:=Nat.mul_pos h hpos;omega
   subst hn0;have h1':Instr.fill (λi=>some (i*ti.size,ti.size)) #[] (ps.toList.map λp=>(p.1,ac.eval p.2))=some cs':=by
    grind
   have hr0:∀f:Nat->Value,(Array.range (0*ti.size)).map f=#[]:=by simp
   simp only[Sem.run_bind,run_underlying hu,Result.andThen_ok,sizeOf,typeInfo,run_program,hi,Sem.run_pure,if_neg hlim',if_pos h0,hps,hr0,h1',newRow,run_newObj];rfl
  ·have hlim2:¬ (16777216<n*ti.size):=by omega
   have hn0:¬ (n=0\/ti.size=0):=by
    grind
   simp only[Sem.run_bind,run_underlying hu,Result.andThen_ok,sizeOf,typeInfo,run_program,hi,Sem.run_pure,if_neg hlim',if_neg h0,zeroValue,hzz,hps];have h1':Instr.fill (λi=>some (i*ti.size,ti.size)) ((Array.range (n*ti.size)).map λx=>zv.cells[x % zv.cells.size]!) (ps.toList.map λp=>(p.1,ac.eval p.2))=some cs':=h1
   simp only[h1',newRow,run_newObj,Sem.run_bind,Result.andThen_ok,Sem.run_pure];rfl
 refine .value (x':=.slice (some ⟨w.heap.size,0,none⟩) n n) (w':=w.alloc (.cells cs' e)) (by simp only[execOp,ho,Sem.run_bind,hb,Result.andThen_ok,Sem.run_pure]) ?_
 rw[hts]
 obtain ⟨ρ', F', g1, g2, g3⟩ := J0.allocRow (H := H1) hH1 e ti.size n cs2 cs' n hpos (by rw [h5, h3, hflen]) hvs (Qaf _) (by
   have:n<=n*ti.size:=Qbs n hpos
   unfold maxLen;omega) (λi z z' hz1 hz2=>h6 i z z' hz1 (by simpa using hz2))
 exact⟨ρ',F',a1.trans g1,g2,g3⟩
theorem Pe2{t e:TypeId}{y yc:Operand}{z:List b7}(ho:o.op=.makeSlice t y yc)(hu:E.P.underlying t=some (.slice e))(hz:zeT E.P e=some z)(hzl:z.length=szT E.P e)(hpos:0<szT E.P e)
  (he:(evalOp E a H (.mksl e (szT E.P e) (byT E.P e) z (o7 y) (o7 yc))).run=some (x,H')):s4 E.P o ac w (U3 W ρ H F w x H'):=by
 have hy:=A9 hA hG y;have hyc:=A9 hA hG yc;simp only[evalOp] at he;cases h1:la4 (c9 E a (o7 y)) with
 |none=>simp[h1] at he
 |some n =>
 cases h2:la4 (c9 E a (o7 yc)) with
 |none=>simp[h1,h2] at he
 |some m =>
 simp only[h1,h2,z6] at he;obtain⟨k1,e1⟩:=Rb0 h1 hy;obtain⟨k2,e2⟩:=Rb0 h2 hyc;obtain⟨hb,he⟩:=DT.run_guard_some he;simp only[Qas] at hb;obtain⟨⟨⟨hb1,hb2⟩,hb3⟩,hb4⟩:=hb;obtain⟨g1,g2,_⟩:=oc8 hb1;obtain⟨g3,g4,_⟩:=oc8 hb2;have hb3:=Qae hb3;have hb4:=Qae hb4;have he':=Qag he;injection he' with e3 e4;subst e3 e4
 obtain⟨ti,zv,hi,hzz,rfl,hone⟩:=lb5 hz;have hts:szT E.P e=ti.size:=by simp[szT,hi]
 have hby:byT E.P e=ti.bytes:=by simp[byT,hi]
 rw[hts] at hzl hpos ⊢;rw[hby] at hb4;have hzs:zv.cells.size=ti.size:=by simpa using hzl
 unfold room at g2 g4 hb4;have hbytes:(ti.bytes:Int)*m<=281474976710656:=by
  grind
 have hr:=run_make (P:=E.P) w t e ti zv hu hi hzz k1 k2 n m g1 (by omega) hbytes (by omega)
 refine .value (x':=.slice (some ⟨w.heap.size,0,none⟩) n.toNat m.toNat) (w':=w.alloc (.cells (madeCells zv.cells (m.toNat*ti.size)) e)) (by simp only[execOp,ho,e1,e2,Sem.run_bind,hr,Result.andThen_ok,Sem.run_pure]) ?_
 have hch:Ea6 H e ti.size (List.replicate n.toNat (zv.cells.toList.map b7.v))=Ea6 H e ti.size (Sa3 ti.size n.toNat (List.replicate n.toNat (zv.cells.toList.map b7.v)).flatten):=by
  congr 1;have hgen:∀(q:Nat) (zz:List b7),zz.length=ti.size->Sa3 ti.size q (List.replicate q zz).flatten=List.replicate q zz:=λq zz hq=>by
   induction q with
   |zero=>rfl
   |succ q ih =>
    simp only[Sa3,List.replicate_succ,List.flatten_cons,J7,I9];rw[List.take_left' hq,List.drop_left' hq,ih]
  simp_all
 rw[hch];have hflen:((List.replicate n.toNat (zv.cells.toList.map b7.v)).flatten).length=n.toNat*ti.size:=by simp[Qbz,hzs]
 refine J0.allocRow hH e ti.size n.toNat _ _ m.toNat hpos hflen (by simp[madeCells]) hb3 (by unfold maxLen;omega) λi u u' hu1 hu2=>?_
 have hlt:i<n.toNat*ti.size:=by have:=(Qab.1 hu1).1;omega
 have hle:n.toNat*ti.size<=m.toNat*ti.size:=Qaj _ hb3;rw[dc4 _ n.toNat i (by simp;omega) (by simp[hzs];exact hlt)] at hu1
 simp[hzs] at hu1;obtain⟨b,hb1,rfl⟩:=hu1;have hlt2:i<m.toNat*ti.size:=by omega
 simp[madeCells,hlt2,hzs] at hu2;rw[getElem!_def,hb1] at hu2
 simp at hu2
 subst hu2;exact .v _ (hone _ (by simpa using Array.mem_of_getElem? hb1))
end
end
section
variable{W:Nat->Prop}{ρ:Rho}{H H':List c7}{F:Fz}{w:World}{E:Env}{o:Oper}{a:List b7}{ac:Act}{x:b7}
theorem ze4:∀(ts:List Nat) (vs:List Value) (t:Nat) (g:Nat->Option Value),Hb0 g ts=some vs->t∈ts->g t=some (Ye3 ts vs t)
 |[],_,_,_,_,h=>by simp at h
 |s::ts,vs,t,g,hm,h=>by
  rw[ce1] at hm;cases hg:g s with
  |none=>simp[hg] at hm
  |some v =>
  cases hr:Hb0 g ts with
  |none=>simp[hg,hr] at hm
  |some r =>
  simp[hg,hr] at hm;subst hm;simp only[Ye3];cases hb:Nat.beq s t with
  |true=>have:=Qad hb;subst this;exact hg
  |false =>
   have hne:=Qbl hb
   rcases Qbh.1 h with h|h
   ·exact absurd h.symm hne
   ·exact ze4 ts r t g hr h
theorem Oc4:∀(l:List Operand) (ts:List Nat),pb2 l=some ts->∀x∈l,(∀t,x=.tmp t->t∈ts)/\∀g,x≠.global g
 |[],_,_,_,hx=>by simp at hx
 |y::l,ts,h,x,hx=>by
  cases y with
  |tmp t =>
   simp only[pb2] at h;cases hr:pb2 l with
   |none=>simp[hr] at h
   |some r =>
   simp[hr] at h;subst h
   rcases Qbh.1 hx with rfl|hx
   ·simp_all
   ·obtain⟨h1,h2⟩:=Oc4 l r hr x hx
    simp_all
  |global g=>simp[pb2] at h
  |const v =>
   rcases Qbh.1 hx with rfl|hx
   ·simp_all
   ·exact Oc4 l ts h x hx
  |func f =>
   rcases Qbh.1 hx with rfl|hx
   ·simp_all
   ·exact Oc4 l ts h x hx
section
variable(hA:Ia4 ρ H F w a ac.tmps)(hH:J0 W ρ H F w)(hG:GOk E F w)
include hA hH hG
theorem ce6{ts:List Nat}(hts:pb2 o.op.operands.toList=some ts)(hs:∀cs b,o.op≠.select cs b)(he:(opt (Vd2 E a (vd1 o) ts) H).run=some (x,H')):s4 E.P o ac w (U3 W ρ H F w x H'):=by
 obtain⟨y,h1,h2⟩:=pb1 he;injection h2 with e1 e2;subst e1 e2
 unfold Vd2 at h1;cases hm:Hb0 (λt=>xe8 (c9 E a (.t t))) ts with
 |none=>simp[hm] at h1
 |some vs =>
 simp only[hm,Ye5] at h1;have hcongr:execOp ac.eval o=execOp (Ye4 ts vs) (vd1 o):=by
  have:execOp (Ye4 ts vs) (vd1 o)=execOp (Ye4 ts vs) o:=rfl
  rw[this];refine execOp_congr o hs λz hz=>?_
  obtain⟨h3,h4⟩:=Oc4 _ ts hts z (by simpa using hz)
  cases z with
  |tmp t =>
   have:=ze4 ts vs t _ hm (h3 t rfl)
   exact sf8 (A9 hA hG (.tmp t)) this
  |const v=>rfl
  |func f=>rfl
  |global g=>exact absurd rfl (h4 g)
 split at h1
 ·rename_i v hr;injection h1 with h1;subst h1;exact .value (x':=v) (w':=w) (by rw[hcongr];exact Oe6 hr w) (.stay hH (.ofVal v))
 ·cases h1
omit hH in
theorem ze5 {z : Option Operand} {n m : Nat} {code : BoundsCode} {d : Nat} (he : ((match z.map (fun y => c9 E a (o7 y)) with
  |none=>DT.ret d
  |some x=>match la4 x with
   |some m=>.guard (inB m (n+1)) (.ret m.toNat)
   |none=>.fail):DT Nat).run=some m) :
  (z=none/\m=d)\/∃y,z=some y/\m<=n/\∀n',n<=n'->(Instr.sliceBound (ac.eval y) n' code).run E.P w=.ok m w:=by
 cases z with
 |none=>exact .inl ⟨rfl,(Qag he).symm⟩
 |some y =>
  right;simp only[Option.map_some] at he;cases hi:la4 (c9 E a (o7 y)) with
  |none=>simp[hi] at he
  |some k =>
  simp only[hi] at he;obtain⟨h1,h2⟩:=DT.run_guard_some he
  have:=Qag h2
  subst this;obtain⟨g1,g2,g3⟩:=oc8 h1;obtain⟨kk,e⟩:=Rb0 hi (A9 hA hG y);refine⟨y,rfl,by omega,λn' hn=>?_⟩
  have hle:k<=(n':Int):=by omega
  simp[Instr.sliceBound,e,asIntOf,g1,hle]
omit hH in
theorem Xc7{n l h:Nat}{lo hi:Option Operand}(he:(cd2 n ((lo.map o7).map (c9 E a)) ((hi.map o7).map (c9 E a))).run=some (l,h)) :
  l<=h/\h<=n/\∀cap,n<=cap->(Instr.sliceBounds true n cap (lo.map ac.eval) (hi.map ac.eval) none).run E.P w=.ok (l,h,cap) w:=by
 unfold cd2 at he;simp only[Option.map_map,Function.comp_def] at he;obtain⟨h',h1,h2⟩:=DT.run_bind_some he;have hb1:=ze5 hA hG (z:=hi) (n:=n) (d:=n) (code:=.sliceAcap) h1;have h2':(l,h).2=h'/\((lo=none/\l=0)\/∃y,lo=some y/\l<=h'/\∀n',h'<=n'->(Instr.sliceBound (ac.eval y) n' .sliceB).run E.P w=.ok l w):=by
  cases lo with
  |none =>
   simp_all
  |some y =>
   simp only[Option.map_some] at h2;cases hi2:la4 (c9 E a (o7 y)) with
   |none=>simp[hi2] at h2
   |some k =>
   simp only[hi2] at h2;obtain⟨g1,g2⟩:=DT.run_guard_some h2
   have:=Qag g2
   injection this with e1 e2;have hb2:=ze5 hA hG (z:=some y) (n:=h') (d:=0) (m:=k.toNat) (code:=.sliceB) (by simp only[Option.map_some,hi2];rw[show (DT.guard (inB k (h'+1)) (DT.ret k.toNat)).run=some k.toNat by unfold DT.guard;rw[DT.run_ite,g1];rfl])
   simp_all
 obtain⟨e,hl⟩:=h2'
 simp only at e
 subst e;have hhn:h<=n:=by rcases hb1 with⟨_,h3⟩ | ⟨_,_,h3,_⟩<;>omega
 have hlh:l<=h:=by rcases hl with⟨_,h3⟩ | ⟨_,_,h3,_⟩<;>omega
 refine⟨hlh,hhn,λcap hcap=>?_⟩
 unfold Instr.sliceBounds
 rcases hb1 with⟨rfl,rfl⟩|⟨y1,rfl,_,k1⟩<;>rcases hl with⟨rfl,rfl⟩|⟨y2,rfl,_,k2⟩
 ·simp
 ·simp_all
 ·simp[k1 cap hcap]
 simp_all
theorem ze6{t e:TypeId}{y:Operand}{lo hi:Option Operand}{ei:TypeInfo}(ho:o.op=.slice t y lo hi none)(hu:E.P.underlying t=some (.slice e))(hei:E.P.info? e=some ei)
  (he:(evalOp E a H (.slice (szT E.P e) (o7 y) (lo.map o7) (hi.map o7))).run=some (x,H')):s4 E.P o ac w (U3 W ρ H F w x H'):=by
 have hy:=A9 hA hG y;have hes:szT E.P e=ei.size:=by simp[szT,hei]
 have hrun : ∀ {ad : Option Addr} {n cap l h : Nat}, ac.eval y = .slice ad n cap → (Instr.sliceBounds true n cap (lo.map ac.eval) (hi.map ac.eval) none).run E.P w = .ok (l, h, cap) w →
   (execOp ac.eval o).run E.P w=.ok (.value (.slice (if cap=l then ad else ad.map (·.add (l*ei.size))) (h-l) (cap-l))) w:=λ{ad n cap l h} e1 e2=>by
  unfold execOp;simp[ho,Instr.sliceAt,run_underlying hu,Instr.slice,e1,e2,sizeOf,typeInfo,hei]
 rw[hes] at he;simp only[evalOp] at he
 revert he hy
 generalize c9 E a (o7 y)=p;intro he hy
 split at he
 ·rename_i id off n g;cases hbk:blkAt H id g with
  |none=>simp[hbk] at he
  |some b =>
  obtain⟨hb,hd,hg⟩:=H4 hbk;cases hbe:Nat.beq b.es ei.size with
  |false=>simp[hbk,hbe] at he
  |true =>
  have hbes:=Qad hbe;simp only[hbk,hbe] at he;obtain⟨⟨l,h⟩,h1,h2⟩:=DT.run_bind_some he;have he':=Qag h2;injection he' with e1 e2;subst e1 e2
  obtain⟨g1,g2,g3⟩:=Xc7 hA hG h1;obtain⟨ad,cap,b',e0,hb',hd',hg',hn,hspot,hcm0,hh⟩:=lb3 hy
  have:b'=b:=Qag (hb'.symm.trans hb)
  subst this;obtain⟨h3,h4,h5⟩:=hh hg;have hr:=hrun e0 (g3 cap hn);have hform:(if cap=l then some ad else (some ad).map (·.add (l*ei.size)))=some (if cap=l then ad else ad.add (l*ei.size)):=by split<;>rfl
  rw[hform] at hr;refine .value hr (.stay hH (.val (.cell (.sl _ _ _ _ _ _ b' hb hd hg' (by omega) ?_ (by omega) λ_=>⟨?_,?_,by omega⟩))))
  ·split
   ·exact hspot
   ·rw[aa2 hspot]
  ·by_cases hc:cap=l
   ·grind
   ·rw[if_neg hc];right;have had:=h3.resolve_left (by omega)
    rw[aa2 hspot,had,hbes,Qao]
    simp;omega
  ·rw[<- h4];congr 1;omega
 ·rename_i es' n get;cases hbe:Nat.beq es' ei.size with
  |false=>simp[hbe] at he
  |true =>
  have hbes:=Qad hbe;simp only[hbe] at he;obtain⟨⟨l,h⟩,h1,h2⟩:=DT.run_bind_some he;have he':=Qag h2;injection he' with e1 e2;subst e1 e2
  obtain⟨g1,g2,g3⟩:=Xc7 hA hG h1;have ht:=Ea8 hy;generalize hv:ac.eval y=v at *
  cases ht with
  |tree _ _ _ ad cap cs hs hcap hes' hF hw hr =>
  have hr0:=hrun rfl (g3 cap hcap);have hform:(if cap=l then some ad else (some ad).map (·.add (l*ei.size)))=some (if cap=l then ad else ad.add (l*ei.size)):=by split<;>rfl
  rw[hform] at hr0;refine .value hr0 (.stay hH (.val (.cell (.mem ?_))));by_cases hc:cap=l
  ·rw[if_pos hc];exact .tree _ _ _ ad _ (λi c=>cs (l+i) c) (λh=>hs (by omega)) (by omega) (λi hi=>absurd hi (by omega)) (λi c hi=>absurd hi (by omega)) (λi c hi=>absurd hi (by omega)) (λi c hi=>absurd hi (by omega))
  ·rw[if_neg hc];have e3:∀i c,ad.off+l*ei.size+(i*es'+c)=ad.off+((l+i)*es'+c):=λi c=>by rw[Qao,hbes];omega
   refine .tree _ _ _ _ _ (λi c=>cs (l+i) c) (λh=>by rw[aa2 (hs (by omega))]) (by omega) (λi hi=>hes' _ (by omega)) (λi c hi hc'=>?_) (λi c hi hc'=>?_) (λi c hi hc'=>hr (l+i) c (by omega) hc')
   ·rw[aa2 (hs (by omega))];simp only;rw[e3];exact hF _ _ (by omega) hc'
   ·rw[aa2 (hs (by omega))];simp only;rw[e3];exact hw _ _ (by omega) hc'
  |nil =>
   have hr:=hrun rfl (g3 0 (Qaf _))
   have:l=0:=by omega
   have:h=0:=by omega
   subst l h;exact .value hr (.stay hH (.val (.cell (.mem (.nil _ _)))))
 ·obtain⟨⟨l,h⟩,h1,h2⟩:=DT.run_bind_some he;have he':=Qag h2;injection he' with e1 e2;subst e1 e2
  obtain⟨g1,g2,g3⟩:=Xc7 hA hG h1;have hr:=hrun (fa0 hy) (g3 0 (Qaf _))
  have:l=0:=by omega
  have:h=0:=by omega
  subst l h;exact .value hr (.stay hH (.ofv _))
 ·cases he
end
section
variable(hA:Ia4 ρ H F w a ac.tmps)(hH:J0 W ρ H F w)(hG:GOk E F w)
include hA hH hG
theorem jf9{t e:TypeId}{n:Nat}{y:Operand}{ei:TypeInfo}(ho:o.op=.slice t y none none none)(hu:E.P.underlying t=some (.array n e))(hei:E.P.info? e=some ei)(hn0:0<n)(he0:0<szT E.P e)
  (he:(evalOp E a H (.asl n (szT E.P e) (o7 y))).run=some (x,H')):s4 E.P o ac w (U3 W ρ H F w x H'):=by
 have hy:=A9 hA hG y;have hes:szT E.P e=ei.size:=by simp[szT,hei]
 have he:aslA n (szT E.P e) (c9 E a (o7 y)) H=some (x,H'):=ic8 he;rw[hes] at he he0
 revert he hy
 generalize c9 E a (o7 y)=p;intro hy he;unfold aslA at he
 split at he
 ·rename_i id i c g;cases hbk:blkAt H id g with
  |none=>simp[hbk] at he
  |some b =>
  obtain⟨hb,hd,hg⟩:=H4 hbk;simp only[hbk] at he
  split at he
  ·rename_i hcond;rw[Qas,Nat.blt_eq,z6,z6] at hcond;obtain⟨hi,hfit⟩:=hcond;have hfit:=Qae hfit;injection he with he;injection he with e1 e2
   have hdis:disown H id=H.set id { b with own:=false }:=by
    simp[disown,modAt,F7,hb,H6]
   rw[hdis] at e2;subst e1 e2;obtain⟨F',hadv,hH',hF'⟩:=hH.disown id b hb hd;obtain⟨ad,b',e0,hb',hd',hg',hh⟩:=Za9 hy
   have:b'=b:=Qag (hb'.symm.trans hb)
   subst this;have had:=hh hg;obtain⟨cc,ct,fr,hB⟩:=hH.blk id b' hb hd;have hspot:ad.spot=none:=by rw[had]
   have hrun:(execOp ac.eval o).run E.P w=.ok (.value (.slice (some ad) n n)) w:=by
    unfold execOp;simp[ho,Instr.sliceAt,run_underlying hu,e0,Instr.sureAddr,Instr.sliceBounds,sizeOf,typeInfo,hei];intro _;rw[aa2 hspot];simp[<- hspot]
   refine .value hrun ⟨ρ,F',hadv,hH',.val (.cell (.mem ?_))⟩;have hr0:b'.elems[i]?=some b'.elems[i]:=Qaa hi;have hrow:c8 b'.elems i=b'.elems[i]:=by simp[c8,F7,hr0]
   have hrl:=hB.rows i _ hr0;rw[hrow] at hfit ⊢;generalize b'.elems[i]=r at hr0 hrl hfit;have hin:∀j k,j<n->k<ei.size->c+(j*ei.size+k)<r.length:=λj k hj hk=>by
    have h1:(j+1)*ei.size<=n*ei.size:=Qaj _ (by omega)
    rw[Qao] at h1;omega
   have hbound:∀k,k<r.length->i*b'.es+k<b'.elems.length*b'.es:=λk hk=>by
    have h1:(i+1)*b'.es<=b'.elems.length*b'.es:=Qaj _ (by omega)
    rw[Qao] at h1;omega
   have hoff:∀j k,(ρ id).off+(i*b'.es+c)+(j*ei.size+k)=(ρ id).off+(i*b'.es+(c+(j*ei.size+k))):=λj k=>by omega
   have hget:∀j,j<n->(J6 (s9 r (c+j*ei.size)) ei.size).length=ei.size:=λj hj=>by
    rw[J7,I9,List.length_take,List.length_drop]
    have:=hin j (ei.size-1) hj (by omega)
    omega
   refine .tree ei.size n _ ad n (λj k=>cc.getD ((ρ id).off+(i*b'.es+(c+(j*ei.size+k)))) undef) (λ_=>hspot) (Qaf _) hget (λj k hj hk=>?_) (λj k hj hk=>?_) (λj k hj hk=>?_)
   ·rw[had];simp only;rw[hoff];exact hF' _ (hbound _ (hin j k hj hk))
   ·rw[had];simp only;rw[hoff,hB.cellAt]
    have:=hB.room;have:=hB.len;have:=hbound _ (hin j k hj hk)
    have hlt:(ρ id).off+(i*b'.es+(c+(j*ei.size+k)))<cc.size:=by omega
    simp[hlt]
   ·have hk':k<ei.size:=by rw[<- hget j hj];exact hk
    obtain⟨x',h7,h8⟩:=hB.cell i r (c+(j*ei.size+k)) _ hr0 (Qaa (hin j k hj hk'));have hlt:=(Qak.1 h7).1;rw[Qac hlt] at h7;injection h7 with h7;have e9:cc.getD ((ρ id).off+(i*b'.es+(c+(j*ei.size+k)))) undef=x':=by simp[hlt,h7]
    have e10:(J6 (s9 r (c+j*ei.size)) ei.size)[k]=r[c+(j*ei.size+k)]'(hin j k hj hk'):=by
     have q:(J6 (s9 r (c+j*ei.size)) ei.size)[k]?=r[c+(j*ei.size+k)]?:=by
      rw[J7,I9,Qap,if_pos hk',Qbg];congr 1;omega
     rw[Qaa hk,Qaa (hin j k hj hk')] at q;exact Qag q
    rw[e9,e10];exact h8.adv hadv.more (λ_ _ _=>rfl)
  ·cases he
 ·cases he
end
end
theorem Oc5{k:Nat}{x:b7}{b:Bool}(hp:Kf2 x=true)(h:ke9 k x=some b):ob7 k x=some b:=by
  unfold ke9 at h
  split at h
  · rename_i es n get
    cases n with
    |zero=>simp[Kf2] at hp
    |succ n=>exact h
  · exact h
section
variable{W:Nat->Prop}{ρ:Rho}{H H':List c7}{F:Fz}{w:World}{E:Env}{o:Oper}{a:List b7}{ac:Act}{x:b7}
theorem eg2{y:b7}{y':Value}(hy:K8 ρ H F w y y')(hp:sf5 y=true):ea9 ρ H F w y y':=by
  have hn:∀cs,y≠.agg cs:=λcs e=>by subst e;cases hp
  have hp':xb3 y=true:=by
    cases y with
    | fn f caps=>cases caps with
      |nil=>rfl
      |cons=>cases hp
    |_=>first | exact hp | cases hp
  exact (cd9 hy hp' hn).1
theorem me1{f:b7->Bool}:∀{l:List b7},Za6 f l=true->∀y∈l,f y=true
  |[],_,y,hy=>by simp at hy
  | z::l,h,y,hy=>by
    have h':(Bool.rec false (Za6 f l) (f z):Bool)=true:=h;cases hz:f z with
    |false=>rw[hz] at h';cases h'
    | true =>
      rw[hz] at h'
      rcases Qbh.1 hy with rfl|hy
      · exact hz
      · exact me1 h' y hy
section
variable(hA:Ia4 ρ H F w a ac.tmps)(hH:J0 W ρ H F w)(hG:GOk E F w)
include hA hH hG
omit hH in
theorem ze7(xs:List Operand):(s5 (c9 E a) (xs.map o7)).length=(xs.map ac.eval).length/\∀(i:Nat) y y',(s5 (c9 E a) (xs.map o7))[i]?=some y->(xs.map ac.eval)[i]?=some y'->K8 ρ H F w y y':=by
  rw[s8];refine⟨by simp,λi y y' hy hy'=>?_⟩
  rw[List.map_map,Qbe] at hy;rw[Qbe] at hy';cases hx:xs[i]? with
  |none=>simp[hx] at hy
  |some z =>
  simp[hx] at hy hy';subst hy hy';exact A9 hA hG z
theorem Pe3{f:FuncId}{first caps:Array Operand}(ho:o.op=.makeFunc (.func f) first caps)(hf:first.isEmpty=true)(hlt:Nat.ble bfB f=false)
    (he:(evalOp E a H (.mkfn f (caps.toList.map o7))).run=some (x,H')):s4 E.P o ac w (U3 W ρ H F w x H'):=by
  simp only[evalOp,hlt] at he;cases hb:Za6 sf5 (s5 (c9 E a) (caps.toList.map o7)) with
  |false=>simp[hb] at he
  |true =>
  simp only[hb] at he;have he':=Qag he;injection he' with e1 e2;subst e1 e2
  obtain⟨h1,h2⟩:=ze7 hA hG caps.toList;have hfirst:first=#[]:=by simpa using hf
  refine .value (x':=Qb8 f (caps.map ac.eval)) (w':=w) (by simp[execOp,ho,Instr.makeFunc,hfirst,cd7 hlt]) (.stay hH (.val (.fn f _ _ (by rw[h1];simp) λi y y' hy hy'=>?_)))
  exact eg2 (h2 i y y' hy (by rw[<- Qby] at hy';simpa using hy')) (me1 hb y (Qbc hy))
theorem Pe4{f:FuncId}{first caps:Array Operand}(ho:o.op=.makeFunc (.func f) first caps)(hc:caps.isEmpty=true)
    (he:(evalOp E a H (.mkfn (f+bfB) (first.toList.map o7))).run=some (x,H')):s4 E.P o ac w (U3 W ρ H F w x H'):=by
  have hge:Nat.ble bfB (f+bfB)=true:=by rw[Nat.ble_eq];exact Nat.le_add_left _ _
  obtain⟨h1,h2⟩:=ze7 (E:=E) hA hG first.toList;simp only[evalOp,hge] at he
  revert he h1 h2
  generalize s5 (c9 E a) (first.toList.map o7)=l;intro h1 h2 he
  split at he
  · rename_i c cs
    have he':=Qag he;injection he' with e1 e2;subst e1 e2
    have hcaps:caps=#[]:=by simpa using hc
    have hl:first.size=1:=by
      simp_all
    obtain⟨z,hz⟩:∃ z,first=#[z]:=by
      obtain⟨l⟩:=first
      match l,hl with
      |[z],_=>exact⟨z,rfl⟩
    subst hz;obtain⟨vs,ev,hlv,hv⟩:=Ja5 (h2 0 _ (ac.eval z) rfl rfl);have hne:vs≠#[]:=λe=>by rw[e] at hlv;simp at hlv
    have e0:f+bfB-bfB=f:=Nat.add_sub_cancel f bfB;refine .value (x':=Qb8 (f+bfB) vs) (w':=w) (by rw[ye0 hge hne,e0];simp[execOp,ho,Instr.makeFunc,hcaps,ev]) (.stay hH (.val (.fn (f+bfB) _ vs hlv hv)))
  · cases he
omit hA hH hG in
theorem tf1{cs:List b7}{vs:Array Value}{t:TypeId}{off n:Nat}{y:b7}{ks:List CK}(hn:n=szT E.P t)(hu:(E.P.underlying t).isSome=true)(hl:cs.length=vs.size)(hr:∀(i:Nat) x x',cs[i]?=some x->vs[i]?=some x'->ea9 ρ H F w x x')
    (hfit:off+n<=cs.length) (hks:ks.length=n) (hok:ka1 ks (cs.drop off)=true) (hy:dc0 (agT E.P t) (Bc9 ks (cs.drop off))=some y):∃y',(part t vs off).run E.P w=.ok y' w/\K8 ρ H F w y y':=by
  obtain⟨d,hd⟩:=Qbd.1 hu;obtain⟨ti,hi1,hi2⟩:=Cb4 hd
  have hget:∀ (i:Nat) z z',(Bc9 ks (cs.drop off))[i]?=some z→(vs.extract off (off+n))[i]?=some z'→ea9 ρ H F w z z':=fun i z z' hz hz'=>by
    obtain⟨hj,k,y,g1,rfl,g2⟩:=nd5 ks _ hok i z hz;have g3:=g2 (by rw[List.length_drop];omega)
    rw[Qbg] at g3;rw[Qbw] at hz'
    split at hz'
    · exact jf5 g1 (hr _ y z' g3 hz')
    · cases hz'
  rcases Oc1 hy with⟨hag,rfl⟩|⟨hag,z,hz,rfl⟩
  · exact⟨.agg (vs.extract off (off+n)),by simp[part,xb5 hag,sizeOf,typeInfo,hi1,hi2,hn],.val (.agg _ _ (by simp[Oc2];omega) hget)⟩
  · have h1 : n = 1 := by
      have:=congrArg List.length hz
      simp[Oc2] at this;omega
    subst h1;have hlt:off<vs.size:=by omega
    have hne:E.P.underlying t≠none:=by rw[hd];simp
    have hlt2:0<(vs.extract off (off+1)).size:=by simp;omega
    refine⟨vs[off],by simp[part,lb4 hag hne,hlt],.val (.cell (hget 0 y vs[off] (by rw[hz];rfl) ?_))⟩
    simp_all
omit hA hH hG in
theorem Kf9{cs:List b7}{vs:Array Value}{t:TypeId}{off n:Nat}{y:b7}(hn:n=szT E.P t)(hu:(E.P.underlying t).isSome=true)(hl:cs.length=vs.size)(hr:∀(i:Nat) x x',cs[i]?=some x->vs[i]?=some x'->ea9 ρ H F w x x')
    (hfit:off+n<=cs.length) (hy:dc0 (agT E.P t) ((cs.drop off).take n)=some y):∃y',(part t vs off).run E.P w=.ok y' w/\K8 ρ H F w y y':=by
  obtain⟨d,hd⟩:=Qbd.1 hu;obtain⟨ti,hi1,hi2⟩:=Cb4 hd
  have hget:∀ (i:Nat) z z',((cs.drop off).take n)[i]?=some z→(vs.extract off (off+n))[i]?=some z'→ea9 ρ H F w z z':=fun i z z' hz hz'=>by
    rw[Qap] at hz
    split at hz
    · rename_i hi
      rw[Qbg] at hz;rw[Qbw] at hz'
      split at hz'
      · exact hr _ z z' hz hz'
      · cases hz'
    · cases hz
  rcases Oc1 hy with⟨hag,rfl⟩|⟨hag,z,hz,rfl⟩
  · exact⟨.agg (vs.extract off (off+n)),by simp[part,xb5 hag,sizeOf,typeInfo,hi1,hi2,hn],.val (.agg _ _ (by simp;omega) hget)⟩
  · have h1 : n = 1 := by
      have:=congrArg List.length hz
      simp at this
      omega
    subst h1;have hlt:off<vs.size:=by omega
    have hne:E.P.underlying t≠none:=by rw[hd];simp
    have hz0:cs[off]?=some y:=by
      have:=congrArg (λl=>l[0]?) hz
      simpa using this
    exact⟨vs[off],by simp[part,lb4 hag hne,hlt],.val (.cell (hr off _ _ hz0 (Qac hlt)))⟩
theorem ze8{t:TypeId}{y:Operand}{f:Nat}{fs:Array Field}{fd:Field}(ho:o.op=.field t y f)(hu:E.P.underlying t=some (.struct fs))(hf:fs[f]?=some fd)(hsome:(E.P.underlying fd.type).isSome=true)
    (he:(evalOp E a H (.field fd.offset (szT E.P fd.type) (agT E.P fd.type) (o7 y))).run=some (x,H')):s4 E.P o ac w (U3 W ρ H F w x H'):=by
  have hy:=A9 hA hG y;simp only[evalOp] at he
  revert he hy
  generalize c9 E a (o7 y)=p;intro he hy
  split at he
  · rename_i cs
    simp only[z6,J7,I9] at he;cases hb:Nat.ble (fd.offset+szT E.P fd.type) cs.length with
    |false=>simp[hb] at he
    |true =>
    simp only[hb] at he;obtain⟨z,h1,h2⟩:=pb1 he;injection h2 with e1 e2;subst e1 e2
    obtain⟨vs,e0,hl,hr⟩:=Ja5 hy;obtain⟨y',h3,h4⟩:=Kf9 rfl hsome hl hr (Qae hb) h1;exact .value (x':=y') (w':=w) (by simp[execOp,ho,Instr.field,run_underlying hu,hf,e0,asAgg,h3]) (.stay hH h4)
  · cases he
theorem ze9{ks:List CK}{t e:TypeId}{n:Nat}{y z:Operand}(ho:o.op=.index t y z)(hu:E.P.underlying t=some (.array n e))(hsome:(E.P.underlying e).isSome=true)
    (he:(evalOp E a H (.index ks n (szT E.P e) (agT E.P e) (o7 y) (o7 z))).run=some (x,H')):s4 E.P o ac w (U3 W ρ H F w x H'):=by
  have hy:=A9 hA hG y;have hz:=A9 hA hG z;simp only[evalOp] at he
  revert he hy
  generalize c9 E a (o7 y)=p;intro he hy
  split at he
  · rename_i cs m hm
    obtain⟨kk,ek⟩:=Rb0 hm hz;obtain⟨hb,he⟩:=DT.run_guard_some he;simp only[Qas] at hb;obtain⟨hb,hb2,hb3,hb4⟩:=hb;obtain⟨g1,g2,g3⟩:=oc8 hb;simp only[z6,I9] at he hb2 hb3 hb4;obtain⟨q,h1,h2⟩:=pb1 he;injection h2 with e1 e2;subst e1 e2
    obtain⟨vs,e0,hl,hr⟩:=Ja5 hy;obtain⟨y',h3,h4⟩:=tf1 rfl hsome hl hr (Qae hb2) (Qad hb3) hb4 h1;obtain⟨d,hd⟩:=Qbd.1 hsome;obtain⟨ti,hi1,hi2⟩:=Cb4 hd;rw[<- hi2] at h3;exact .value (x':=y') (w':=w) (by simp[execOp,ho,Instr.index,ek,asIntOf,run_underlying hu,e0,g1,g2,sizeOf,typeInfo,hi1,h3]) (.stay hH h4)
  · cases he
theorem Pe5{t:TypeId}{y z:Operand}(ho:o.op=.index t y z)(hu:E.P.underlying t=some .string)
    (he:(evalOp E a H (.sidx (o7 y) (o7 z))).run=some (x,H')):s4 E.P o ac w (U3 W ρ H F w x H'):=by
  have hy:=A9 hA hG y;have hz:=A9 hA hG z;simp only[evalOp] at he
  revert he hy
  generalize c9 E a (o7 y)=p;intro he hy
  split at he
  · rename_i s
    split at he
    · rename_i m hm
      obtain⟨kk,ek⟩:=Rb0 hm hz;obtain⟨hb,he⟩:=DT.run_guard_some he;obtain⟨g1,g2,g3⟩:=oc8 hb;have he:some (b7.v (.int .u8 (sAt s m)),H)=some (x,H'):=he;injection he with he;injection he with e1 e2;subst e1 e2
      have e0:=fa0 hy;have hlt:m.toNat<s.size:=by omega
      have hget:s[m.toNat]?=some s[m.toNat]:=by
        simp[getElem?_def,hlt]
      refine .value (x':=.int .u8 (sAt s m)) (w':=w) ?_ (.stay hH (.ofv _));have hs:sAt s m=(s[m.toNat].toNat:Int):=by unfold sAt;rw[hget]
      simp[execOp,ho,Instr.index,ek,asIntOf,run_underlying hu,e0,g1,hget,hs]
    · cases he
  · cases he
theorem Pe6{t:TypeId}{y:Operand}{c:Call}(ho:o.op=.call c)(hcb:c.callee=.builtin .len)(hca:c.args=#[y])(hct:c.argTypes=#[t])(hu:E.P.underlying t=some .string)
    (he:(evalOp E a H (.slen (o7 y))).run=some (x,H')):s4 E.P o ac w (U3 W ρ H F w x H'):=by
  have hy:=A9 hA hG y;simp only[evalOp] at he
  revert he hy
  generalize c9 E a (o7 y)=p;intro he hy
  split at he
  · rename_i s
    have he:some (b7.v (.int .i64 s.size),H)=some (x,H'):=he;injection he with he;injection he with e1 e2;subst e1 e2
    have e0:=fa0 hy;refine .value (x':=.int .i64 s.size) (w':=w) ?_ (.stay hH (.ofv _));unfold execOp;simp[ho,hcb,hca,hct,resolve,invoke,builtin,e0,Builtin.len_,run_underlying hu,goInt]
  · cases he
theorem kf0{t e:TypeId}{y:Operand}{c:Call}(ho:o.op=.call c)(hcb:c.callee=.builtin .len)(hca:c.args=#[y])(hct:c.argTypes=#[t])(hu:E.P.underlying t=some (.slice e))
    (he:(evalOp E a H (.len (o7 y))).run=some (x,H')):s4 E.P o ac w (U3 W ρ H F w x H'):=by
  have hy:=A9 hA hG y;simp only[evalOp] at he;obtain⟨z,h1,h2⟩:=pb1 he;injection h2 with e1 e2;subst e1 e2
  have hrun:∀ {ad:Option Addr} {n cap:Nat},ac.eval y=.slice ad n cap→(execOp ac.eval o).run E.P w=.ok (.value (.int .i64 n)) w:=fun {ad n cap} e1=>by
    unfold execOp;simp[ho,hcb,hca,hct,resolve,invoke,builtin,e1,Builtin.len_,run_underlying hu,goInt]
  revert h1 hy
  generalize c9 E a (o7 y)=p;intro h1 hy;unfold qg1 at h1
  split at h1
  · injection h1 with h1
    subst h1;obtain⟨ad,cap,b',e0,_⟩:=lb3 hy;exact .value (hrun e0) (.stay hH (.ofv _))
  · injection h1 with h1
    subst h1;have ht:=Ea8 hy;generalize hv:ac.eval y=v at *
    cases ht with
    |tree _ _ _ ad cap cs hs hcap hes' hF hw hr=>exact .value (hrun rfl) (.stay hH (.ofv _))
    |nil=>exact .value (hrun rfl) (.stay hH (.ofv _))
  · injection h1 with h1
    subst h1;exact .value (hrun (fa0 hy)) (.stay hH (.ofv _))
  · cases h1
omit hA hG in
theorem Vd3{t e:TypeId}{n:Nat}{y:Operand}{c:Call}(ho:o.op=.call c)(hcb:c.callee=.builtin .len)(hca:c.args=#[y])(hct:c.argTypes=#[t])(hu:E.P.underlying t=some (.array n e))
    (he:(evalOp E a H (.mv (.c (.v (.int .i64 n))))).run=some (x,H')):s4 E.P o ac w (U3 W ρ H F w x H'):=by
  have he':some (b7.v (.int .i64 n),H)=some (x,H'):=he;injection he' with he';injection he' with h1 h2;subst h1 h2;refine .value (x':=.int .i64 n) (w':=w) ?_ (.stay hH (.ofv _));unfold execOp;simp[ho,hcb,hca,hct,resolve,invoke,builtin,Builtin.len_,run_underlying hu,goInt]
omit hA hH hG in
theorem Ae0{P:Program}{t e:TypeId}(hu:P.underlying t=some (.slice e))(ap aq:Option Addr)(n c m k:Nat)(h3:ap.isNone=true\/aq.isNone=true) :
    (Op.equal t (.slice ap n c) (.slice aq m k)).run P w=.ok (ap.isNone&&aq.isNone) w:=by
  have h:∀ d:Nat,(Op.equalIn (d+1) t (.slice ap n c) (.slice aq m k)).run P w=.ok (ap.isNone&&aq.isNone) w:=fun d=>by
    cases ap<;>cases aq<;>first | (simp at h3;done) | simp[Op.equalIn,run_underlying hu]
  exact h 9999
omit hA hH hG in
theorem kf1{P:Program}{t e:TypeId}(hu:P.underlying t=some (.pointer e))(ap aq:Option Addr)(h3:ap.isNone=true\/aq.isNone=true) :
    (Op.equal t (.pointer ap) (.pointer aq)).run P w=.ok (ap.isNone&&aq.isNone) w:=by
  have h:∀ d:Nat,(Op.equalIn (d+1) t (.pointer ap) (.pointer aq)).run P w=.ok (ap.isNone&&aq.isNone) w:=fun d=>by
    cases ap<;>cases aq<;>first | (simp at h3;done) | simp[Op.equalIn,run_underlying hu]
  exact h 9999
omit hA hH hG in
theorem Gd9{P:Program}{t:TypeId}{ps rs:Array TypeId}{v:Bool}(hu:P.underlying t=some (.func ps rs v)) :
    (Op.equal t .nilFunc .nilFunc).run P w=.ok true w/\(∀f c,(Op.equal t .nilFunc (.func f #[] c)).run P w=.ok false w)/\∀f c,(Op.equal t (.func f #[] c) .nilFunc).run P w=.ok false w:=by
  have h1:∀d:Nat,(Op.equalIn (d+1) t .nilFunc .nilFunc).run P w=.ok true w:=λd=>by simp[Op.equalIn,run_underlying hu]
  have h2:∀(d:Nat) f c,(Op.equalIn (d+1) t .nilFunc (.func f #[] c)).run P w=.ok false w:=λd f c=>by simp[Op.equalIn,run_underlying hu]
  have h3:∀(d:Nat) f c,(Op.equalIn (d+1) t (.func f #[] c) .nilFunc).run P w=.ok false w:=λd f c=>by simp[Op.equalIn,run_underlying hu]
  exact⟨h1 9999,h2 9999,h3 9999⟩
omit hA hH hG in
theorem eg3{t:TypeId}{p q:b7}{p' q':Value}{bp bq:Bool}(hp:K8 ρ H F w p p')(hq:K8 ρ H F w q q')(h1:ob7 (Yb5 E.P t) p=some bp)(h2:ob7 (Yb5 E.P t) q=some bq)(h3:bp=true\/bq=true) :
    (Op.equal t p' q').run E.P w=.ok (bp&&bq) w/\(∀op y z,(eqGuard op t y z p' q').run E.P w=.ok () w)/\(∀op,op=.eql\/op=.neq->binOp op t p' q'=if op=.eql then (do pure (.bool (<- Op.equal t p' q'))) else (do pure (.bool (!(<- Op.equal t p' q'))))):=by
  unfold Yb5 at h1 h2;cases hu:E.P.underlying t with
  |none=>simp[hu,ob7] at h1
  |some d =>
  cases d with
  | slice e =>
    simp only[hu] at h1 h2
    have form:∀ {r:b7} {r':Value} {b:Bool},K8 ρ H F w r r'→ob7 0 r=some b→∃ ad n c,r'=.slice ad n c∧ad.isNone=b:=fun {r r' b} hr hb=>by
      unfold ob7 at hb
      split at hb<;>first | cases hb | skip
      · exact⟨none,_,_,fa0 hr,rfl⟩
      · exact⟨some _,_,_,fa0 hr,rfl⟩
      · obtain⟨ad,cap,b',e0,_⟩:=lb3 hr;exact⟨some ad,_,_,e0,rfl⟩
      · split at hb
        · cases hb
        · injection hb with hb;subst hb
          have ht:=Ea8 hr;cases ht with
          |tree _ _ _ ad cap cs hs hcap hes' hF hw hr=>exact⟨some ad,_,_,rfl,rfl⟩
      all_goals contradiction
    obtain⟨ap,np,cp,rfl,rfl⟩:=form hp h1;obtain⟨aq,nq,cq,rfl,rfl⟩:=form hq h2;refine⟨Ae0 hu ap aq np cp nq cq h3,λop y z=>?_,λop hop=>?_⟩
    · cases op<;>simp[eqGuard]
    · rcases hop with rfl | rfl<;>rfl
  | pointer e =>
    simp only[hu] at h1 h2
    have form:∀ {r:b7} {r':Value} {b:Bool},K8 ρ H F w r r'→ob7 1 r=some b→∃ ad,r'=.pointer ad∧ad.isNone=b:=fun {r r' b} hr hb=>by
      unfold ob7 at hb
      split at hb<;>first | cases hb | skip
      all_goals first
        |contradiction
        |exact⟨none,fa0 hr,rfl⟩
        |(obtain⟨ad,b',e0,_⟩:=Za9 hr;exact⟨some ad,e0,rfl⟩)
        |(obtain⟨ad,vs,e0,_⟩:=jc0 hr;exact⟨some ad,e0,rfl⟩)
    obtain⟨ap,rfl,rfl⟩:=form hp h1;obtain⟨aq,rfl,rfl⟩:=form hq h2;refine⟨kf1 hu ap aq h3,λop y z=>?_,λop hop=>?_⟩
    · cases op<;>simp[eqGuard]
    · rcases hop with rfl | rfl<;>rfl
  | func ps rs v =>
    simp only[hu] at h1 h2
    have form:∀ {r:b7} {r':Value} {b:Bool},K8 ρ H F w r r'→ob7 2 r=some b→(r'=.nilFunc∧b=true)∨∃ f c,r'=.func f #[] c∧b=false:=fun {r r' b} hr hb=>by
      unfold ob7 at hb
      split at hb<;>first | cases hb | skip
      all_goals first
        |contradiction
        |exact .inl ⟨fa0 hr,rfl⟩
        | (split at hb
           · cases hb
           · rename_i hlt
             obtain⟨vs,e0,_⟩:=dc3 hr;injection hb with hb;exact .inr ⟨_,_,e0.trans (cd7 hlt vs),hb.symm⟩)
    rcases form hp h1 with⟨rfl,rfl⟩|⟨f1,c1,rfl,rfl⟩<;>rcases form hq h2 with⟨rfl,rfl⟩|⟨f2,c2,rfl,rfl⟩
    all_goals first
      |(simp at h3;done)
      | (refine ⟨?_, fun op y z => ?_, fun op hop => ?_⟩
         · first | exact (Gd9 hu).1 | exact (Gd9 hu).2.1 _ _ | exact (Gd9 hu).2.2 _ _
         · cases op<;>simp[eqGuard]
         · rcases hop with rfl | rfl<;>rfl)
  |_=>simp[hu,ob7] at h1
theorem ce7{op:BinOp}{neg:Bool}{t u:TypeId}{y z:Operand}{ts:List Nat}(ho:o.op=.binOp op t y z u)(hop:(op=.eql/\neg=false)\/(op=.neq/\neg=true))(hts:pb2 o.op.operands.toList=some ts)
    (he:(evalOp E a H (.eqn (Yb5 E.P t) neg (o7 y) (o7 z) (vd1 o) ts)).run=some (x,H')):s4 E.P o ac w (U3 W ρ H F w x H'):=by
  have hy:=A9 hA hG y;have hz:=A9 hA hG z;simp only[evalOp] at he
  have hgen:(opt (Vd2 E a (vd1 o) ts) H).run=some (x,H')→s4 E.P o ac w (U3 W ρ H F w x H') :=
    ce6 hA hH hG hts (λcs b e=>by rw[ho] at e;cases e)
  have hfin : ∀ {bp bq : Bool}, ob7 (Yb5 E.P t) (c9 E a (o7 y)) = some bp → ob7 (Yb5 E.P t) (c9 E a (o7 z)) = some bq → (bp = true ∨ bq = true) →
      (execOp ac.eval o).run E.P w=.ok (.value (.bool (match neg with | true=>!(bp&&bq) | false=>bp&&bq))) w:=λ{bp bq} h1 h2 h3=>by
    obtain⟨g1,g2,g3⟩:=eg3 hy hz h1 h2 h3
    rcases hop with⟨rfl,rfl⟩|⟨rfl,rfl⟩
    · simp only[execOp,ho,Sem.run_bind,g2,Result.andThen_ok,g3 .eql (.inl rfl),if_pos,g1,Sem.run_pure]
    · have hne:¬ (BinOp.neq=BinOp.eql):=by decide
      simp only[execOp,ho,Sem.run_bind,g2,Result.andThen_ok,g3 .neq (.inr rfl),if_neg hne,g1,Sem.run_pure]
  obtain⟨hpos,he⟩:=DT.run_guard_some he;rw[Qas] at hpos;unfold dg3 at he
  split at he
  · rename_i b h1 h2
    have h1:=Oc5 hpos.1 h1;have h2:=Oc5 hpos.2 h2;obtain⟨q,e1,e2⟩:=pb1 he;injection e1 with e1;injection e2 with e2 e3;subst e1 e2 e3
    refine .value (hfin h1 h2 (.inl rfl)) ?_;cases neg<;>exact .stay hH (.ofv _)
  · rename_i h1 h2
    have h1:=Oc5 hpos.1 h1;have h2:=Oc5 hpos.2 h2;obtain⟨q,e1,e2⟩:=pb1 he;injection e1 with e1;injection e2 with e2 e3;subst e1 e2 e3
    refine .value (hfin h1 h2 (.inr rfl)) ?_;cases neg<;>exact .stay hH (.ofv _)
  · exact hgen he
end
end
section
variable{W:Nat->Prop}{ρ:Rho}{H H':List c7}{F:Fz}{w:World}{E:Env}{o:Oper}{a:List b7}{ac:Act}{x:b7}
theorem Ze1(hH:J0 W ρ H F w){id off es:Nat}{b':c7}(hb:H[id]?=some b')(hd:b'.dead=false)(hown:b'.own=true)(hbes:b'.es=es){cc:Array Value}{tt:TypeId}(hB:Ad1 W F w (ρ id) b' cc tt (0,0)){news:List (List b7)}{nv:List Value}
  (hl:nv.length=news.length*es) (hrow:∀(i:Nat) r,news[i]?=some r->r.length=es) (hcell:∀(i:Nat) r (c:Nat) u,news[i]?=some r->r[c]?=some u->∃u',nv[i*es+c]?=some u'/\fa8 F w u u') (hfit:off+news.length<=b'.elems.length) :
  off*es+news.length*es<=cc.size /\
  Adv W ρ H F w ρ (H.set id { b' with elems:=b'.elems.take off++(news++b'.elems.drop (off+news.length)) }) F (w.setRow (ρ id).blk (cc.toList.take (off*es)++nv++cc.toList.drop (off*es+news.length*es)).toArray) /\
  J0 W ρ (H.set id { b' with elems:=b'.elems.take off++(news++b'.elems.drop (off+news.length)) }) F (w.setRow (ρ id).blk (cc.toList.take (off*es)++nv++cc.toList.drop (off*es+news.length*es)).toArray):=by
 obtain⟨hfr,hW,hoff0,hsize,hnF,htt⟩:=hB.own hown;have hlenB:=hB.len;generalize hm:news.length=m at *
 have hfc:off*es+m*es<=cc.size:=by
  have h8:(off+m)*es<=b'.elems.length*b'.es:=by rw[hbes];exact Qaj _ hfit
  grind
 have hel2:(b'.elems.take off++(news++b'.elems.drop (off+m))).length=b'.elems.length:=by simp;omega
 have hget:∀(i:Nat) r,(b'.elems.take off++(news++b'.elems.drop (off+m)))[i]?=some r->(off<=i/\i<off+m/\news[i-off]?=some r)\/((i<off\/off+m<=i)/\b'.elems[i]?=some r):=λi r hr=>by
  rcases Qaq i off with hi|hi
  ·rw[Qbb (by simp;omega),Qap,if_pos hi] at hr
   exact .inr ⟨.inl hi,hr⟩
  ·rw[Qba (by simp;omega)] at hr
   have e9:i-(b'.elems.take off).length=i-off:=by simp;omega
   rw[e9] at hr
   rcases Qaq i (off+m) with hi2|hi2
   ·rw[Qbb (by omega)] at hr
    exact .inl ⟨hi,hi2,hr⟩
   ·rw[Qba (by omega),Qbg] at hr
    have e10:off+m+(i-off-news.length)=i:=by omega
    rw[e10] at hr;exact .inr ⟨.inr hi2,hr⟩
 obtain⟨h6,h7⟩:=hH.rewrite id b' { b' with elems:=b'.elems.take off++(news++b'.elems.drop (off+m)) } hb hd hown cc tt hB
  (cc.toList.take (off*es)++nv++cc.toList.drop (off*es+m*es)).toArray
  (by simp;omega) rfl rfl hown hd (Qaf _) (λ_=>by simp only;omega) (by simp only;rw[hel2];exact hlenB)
  (λi r hr=>by
   rcases hget i r hr with⟨h1,h2,h8⟩|⟨_,h8⟩
   ·rw[hbes];exact hrow _ r h8
   ·exact hB.rows i r h8)
  (λi r k u hr hu=>by
   have hsa:=Xc6 (l:=cc) (new:=nv) (c:=off*es) (k:=i*b'.es+k) (by rw[hl];exact hfc)
   rw[hl] at hsa;rw[hsa,hbes]
   rcases hget i r hr with⟨h1,h2,h8⟩|⟨h1,h8⟩
   ·have hk:k<es:=by rw[<- hrow _ r h8];exact (Qab.1 hu).1
    obtain⟨u',h9,h10⟩:=hcell _ r k u h8 hu;have e11:i*es=off*es+(i-off)*es:=by rw[<- Qao];congr 1;omega
    have e12:(i-off)*es+k<m*es:=by
     have:=Qaj es (show i-off+1<=m by omega)
     rw[Qao,Qbi] at this;omega
    rw[if_pos (by omega)]
    refine⟨u',?_,h10⟩;rw[show i*es+k-off*es=(i-off)*es+k by omega]
    exact h9
   ·have hk:k<es:=by rw[<- hbes,<- hB.rows _ r h8];exact (Qab.1 hu).1
    obtain⟨u',h9,h10⟩:=hB.cell i r k u h8 hu;rw[hoff0,Qar,hbes] at h9;have hnot:¬ (off*es<=i*es+k/\i*es+k<off*es+m*es):=by
     rcases h1 with h1|h1
     ·have:=Qaj es (show i+1<=off from h1)
      rw[Qao,Qbi] at this;omega
     ·have:=Qaj es h1
      rw[Qao] at this;omega
    rw[if_neg hnot];exact⟨u',h9,h10⟩)
 exact⟨hfc,h6,h7⟩
theorem Ad2{P:Program}{t e:TypeId}{i:TypeInfo}(ty:TypeId)(ht:P.underlying t=some (.slice e))(hi:P.info? e=some i)(g n cap:Nat)(x':Value)(k:Nat)(cur:Array Value)(tt:TypeId)(nv:List Value)
  (hg:w.heap[g]?=some (.cells cur tt (0,0))) (hx:(x'=.slice none 0 0/\k=0)\/∃ad c,x'=.slice (some ad) k c/\∀j v,nv[j]?=some v->w.cell? (ad.add j)=some v) (hl:nv.length=k*i.size) (hcap:n+k<=cap) (hfit:n*i.size+k*i.size<=cur.size) (h1:∀v∈nv,v.oneCell'=true) :
  (Builtin.append_ #[t,t] ty #[.slice (some ⟨g,0,none⟩) n cap,x']).run P w=.ok (.slice (some ⟨g,0,none⟩) (n+k) cap) (w.setRow g (cur.toList.take (n*i.size)++nv++cur.toList.drop (n*i.size+k*i.size)).toArray):=by
 have hst:=run_storeCells_at (P:=P) g (n*i.size) tt nv 0 cur w hg (by rw[hl];simpa using hfit) h1
 simp only[Nat.add_zero,hl] at hst;have hadd:(⟨g,0,none⟩:Addr).add (n*i.size)=⟨g,n*i.size,none⟩:=by
  have:=aa2 (ad:=⟨g,0,none⟩) rfl (n*i.size)
  simpa using this
 rcases hx with⟨rfl,rfl⟩|⟨ad,c,rfl,hc⟩
 ·have hn0:nv=[]:=Qbf (by simpa using hl)
  subst hn0;simp only[Nat.zero_mul,Nat.add_zero] at hst ⊢;simp[Builtin.append_,run_underlying ht,sizeOf,typeInfo,hi,Builtin.lenOf,Builtin.firstCells,show n<=cap by omega,hadd,hst]
 ·have hf:=run_firstCells_some (P:=P) (w:=w) i.size k ad k c nv hl hc;simp[Builtin.append_,run_underlying ht,sizeOf,typeInfo,hi,Builtin.lenOf,hcap,hf,hadd,hst]
section
variable(hA:Ia4 ρ H F w a ac.tmps)(hH:J0 W ρ H F w)(hG:GOk E F w)
include hA hH hG
theorem Hd0{t e:TypeId}{y z:Operand}{c:Call}(ho:o.op=.call c)(hcb:c.callee=.builtin .append)(hca:c.args=#[y,z])(hct:c.argTypes=#[t,t])
  (hu:E.P.underlying t=some (.slice e)) {ei:TypeInfo} (hei:E.P.info? e=some ei) (hes:0<ei.size)
  (he:(evalOp E a H (.apre (szT E.P e) (o7 y) (o7 z))).run=some (x,H')):s4 E.P o ac w (U3 W ρ H F w x H'):=by
 have hy:=A9 hA hG y;have hzr:=A9 hA hG z;have hes':szT E.P e=ei.size:=by simp[szT,hei]
 rw[hes'] at he;simp only[evalOp,apreA] at he;cases hel:elemsOf ei.size H (c9 E a (o7 z)) with
 |none=>simp[hel] at he
 |some news =>
 simp only[hel] at he;obtain⟨nv,hN⟩:=Gd7 hH hzr hel;have hrun:∀{r:Value} {w':World},(Builtin.append_ #[t,t] o.type #[ac.eval y,ac.eval z]).run E.P w=.ok r w'->(execOp ac.eval o).run E.P w=.ok (.value r) w':=λ{r w'} h=>by
  unfold execOp;simp[ho,hcb,hca,hct,resolve,invoke,builtin,h]
 revert he hy
 generalize c9 E a (o7 y)=p;intro hy he
 split at he
 ·have e0:=fa0 hy;obtain⟨h0,he⟩:=DT.run_guard_some he;rw[z6] at h0;have h0:=Qad h0;have he:some (b7.v (.slice none 0 0),H)=some (x,H'):=he;injection he with he;injection he with e1 e2;subst e1 e2
  rcases hN.form with⟨hx,_⟩|⟨ad,cap,hx,_,_⟩
  ·exact .value (hrun (by rw[e0,hx];exact wa5 _ hu hei none none 0 0 0 (Qaf _) w)) (.stay hH (.ofv _))
  ·exact .value (hrun (by rw[e0,hx,h0];exact wa5 _ hu hei none (some ad) 0 0 cap (Qaf _) w)) (.stay hH (.ofv _))
 ·rename_i id off n g;cases hbk:blkAt H id g with
  |none=>simp[hbk] at he
  |some b =>
  obtain⟨hb,hd,hg⟩:=H4 hbk;simp only[hbk] at he
  split at he
  case h_2=>cases he
  rename_i hc4;simp only[Qas] at hc4;obtain⟨⟨hown,hoff⟩,hbes⟩:=hc4;have hoff:=Qad hoff;have hbes:=Qad hbes;subst hoff;obtain⟨hle,he⟩:=DT.run_guard_some he;rw[z6,z6] at hle;have hle:=Qae hle;have he:some (b7.sl id 0 (n+len news) g,setAt H id { b with elems:=app (J6 b.elems n) (app news (s9 b.elems (n+len news))) })=some (x,H'):=he
  injection he with he;injection he with e1 e2;subst e1 e2
  rw[H6,K6,K6,J7,I9,z6];obtain⟨ad,cap,b',e0,hb',hd',hg',hn,hspot,hcm0,hh⟩:=lb3 hy
  have:b'=b:=Qag (hb'.symm.trans hb)
  subst this;obtain⟨h3,h4,h5⟩:=hh hg;obtain⟨cc,tt,fr,hB⟩:=hH.blk id b' hb hd;obtain⟨hfr,hW,hoff0,hsize,hnF,htt⟩:=hB.own hown;subst hfr;obtain⟨hfc,h6,h7⟩:=Ze1 hH (off:=n) hb hd hown hbes hB hN.len hN.rows hN.cell hle;have had:ad=⟨(ρ id).blk,0,none⟩:=by
   simp_all
  have hcap:n+news.length<=cap:=by
   have h8:=hB.len;rw[hbes] at h8;rw[Qar,hbes] at h4;have h9:b'.elems.length*ei.size<=cap*ei.size:=by omega
   have:=Nat.le_of_mul_le_mul_right h9 hes
   omega
  have hxf:(ac.eval z=.slice none 0 0/\news.length=0)\/∃ad cap,ac.eval z=.slice (some ad) news.length cap/\∀j v,nv[j]?=some v->w.cell? (ad.add j)=some v:=by
   rcases hN.form with⟨h1,h2⟩|⟨ad,cap,h1,_,h2⟩
   ·exact .inl ⟨h1,by simp[h2]⟩
   ·exact .inr ⟨ad,cap,h1,h2⟩
  have hr:=Ad2 (P:=E.P) (w:=w) (t:=t) o.type hu hei (ρ id).blk n cap (ac.eval z) news.length cc tt nv hB.obj hxf hN.len hcap hfc hN.one;have hid:id<H.length:=(Qab.1 hb).1;refine .value (hrun (by rw[e0,had];exact hr)) ⟨ρ,F,h6,h7,.val (.cell (.sl _ _ _ _ _ _ { b' with elems:=b'.elems.take n++(news++b'.elems.drop (n+news.length)) } (by simp[hid]) hd hg' hcap rfl hcm0 λ_=>⟨.inr ?_,h4,by simp;omega⟩))⟩
  rw[hoff0];simp
 ·cases he
theorem ce8{t e:TypeId}{y:Operand}{z:List b7}{c:Call}(ho:o.op=.call c)(hcb:c.callee=.builtin .clear)(hca:c.args=#[y])(hct:c.argTypes=#[t])
  (hu:E.P.underlying t=some (.slice e)) (hz:zeT E.P e=some z) (hpos:0<szT E.P e)
  (he:(evalOp E a H (.clr (szT E.P e) z (o7 y))).run=some (x,H')):s4 E.P o ac w (U3 W ρ H F w x H'):=by
 have hy:=A9 hA hG y;obtain⟨ti,zv,hi,hzz,hzr,hone⟩:=lb5 hz;have hes':szT E.P e=ti.size:=by simp[szT,hi]
 rw[hes'] at he hpos;simp only[evalOp] at he;have he:=ic8 he;have hrun:∀{r:Value} {w':World},(Builtin.clear_ #[t] o.type #[ac.eval y]).run E.P w=.ok r w'->(execOp ac.eval o).run E.P w=.ok (.value r) w':=λ{r w'} h=>by
  unfold execOp;simp[ho,hcb,hca,hct,resolve,invoke,builtin,h]
 revert he hy
 generalize c9 E a (o7 y)=p;intro hy he;unfold clrA at he
 split at he
 ·have e0:=fa0 hy;have he:some (b7.v (.tuple #[]),H)=some (x,H'):=he;injection he with he;injection he with e1 e2;subst e1 e2
  exact .value (hrun (by rw[e0];simp[Builtin.clear_,run_underlying hu])) (.stay hH (.ofv _))
 ·rename_i id off n g;cases hbk:blkAt H id g with
  |none=>simp[hbk] at he
  |some b =>
  obtain⟨hb,hd,hg⟩:=H4 hbk;simp only[hbk] at he
  split at he
  case h_2=>cases he
  rename_i hc4;simp only[Qas] at hc4;obtain⟨⟨hown,hbes⟩,hzl⟩:=hc4;have hbes:=Qad hbes;rw[z6] at hzl;have hzl:=Qad hzl;have he:some (b7.v (.tuple #[]),setAt H id { b with elems:=app (J6 b.elems off) (app (List.replicate n z) (s9 b.elems (off+n))) })=some (x,H'):=he
  injection he with he;injection he with e1 e2;subst e1 e2
  rw[H6,K6,K6,J7,I9];obtain⟨ad,cap,b',e0,hb',hd',hg',hn,hspot,hcm0,hh⟩:=lb3 hy
  have:b'=b:=Qag (hb'.symm.trans hb)
  subst this;obtain⟨h3,h4,h5⟩:=hh hg;obtain⟨cc,tt,fr,hB⟩:=hH.blk id b' hb hd;obtain⟨hfr,hW,hoff0,hsize,hnF,htt⟩:=hB.own hown;subst hfr;have hzs:zv.cells.size=ti.size:=by rw[hzr] at hzl;simpa using hzl
  have hzc:(Builtin.zeroCells zv.cells n).toList.length=n*ti.size:=by simp[Builtin.zeroCells,hzs]
  obtain⟨hfc,h6,h7⟩:=Ze1 hH (off:=off) (news:=List.replicate n z) (nv:=(Builtin.zeroCells zv.cells n).toList) hb hd hown hbes hB (by rw[hzc,Qbn]) (λj r hr=>by rw[Qbt] at hr;split at hr<;>cases hr;exact hzl)
   (λj r k u hr hu=>by
    rw[Qbt] at hr
    split at hr
    case isFalse=>cases hr
    rename_i hj;injection hr with hr;subst hr;have hk:k<ti.size:=by rw[<- hzl];exact (Qab.1 hu).1
    rw[hzr,Qbe] at hu;have hkz:k<zv.cells.size:=by omega
    have hq:zv.cells.toList[k]?=some zv.cells[k]:=by simp[hkz]
    rw[hq] at hu;injection hu with hu;subst hu;refine⟨zv.cells[k],?_,.v _ (hone _ (by simp))⟩
    have hlt:j*ti.size+k<n*ti.size:=by
     have:=Qaj ti.size (show j+1<=n from hj)
     rw[Qao,Qbi] at this;omega
    have hm4:(j*ti.size+k) % ti.size=k:=by rw[Qbo,Nat.mul_add_mod,Qbr hk]
    simp only[Builtin.zeroCells,hzs,Qby];rw[Array.getElem?_map,Array.getElem?_range,if_pos hlt];simp[hm4,hkz])
   (by rw[Qbn];exact h5)
  simp only[Qbn] at hfc h6 h7
  rcases Qav n with hn0|hn0
  ·subst hn0;have hset:H.set id { b' with elems:=b'.elems.take off++(List.replicate 0 z++b'.elems.drop (off+0)) }=H:=by
    have:({ b' with elems:=b'.elems.take off++(List.replicate 0 z++b'.elems.drop (off+0)) }:c7)=b':=by simp
    rw[this];apply List.ext_getElem?
    grind
   rw[hset];exact .value (hrun (by rw[e0];simp[Builtin.clear_,run_underlying hu])) (.stay hH (.ofv _))
  ·have had : ad = ⟨(ρ id).blk, off * ti.size, none⟩ := by
    grind
   have hst:=run_storeCells_at (P:=E.P) (ρ id).blk (off*ti.size) tt (Builtin.zeroCells zv.cells n).toList 0 cc w hB.obj (by rw[hzc];simpa using hfc) (λv hv=>by
    have hv':v∈Builtin.zeroCells zv.cells n:=by simpa using hv
    obtain⟨q,hq,rfl⟩:=Array.mem_iff_getElem.1 hv';have hq':q<n*ti.size:=by rw[<- hzc];simpa using hq
    simp only[Builtin.zeroCells,Array.getElem_map,Array.getElem_range];have hqm:q % zv.cells.size<zv.cells.size:=Nat.mod_lt _ (by omega)
    rw[getElem!_pos zv.cells _ hqm];exact hone _ (by simp))
   simp only[Nat.add_zero,hzc] at hst;obtain⟨n',rfl⟩:∃n',n=n'+1:=⟨n-1,by omega⟩
   refine .value (w':=w.setRow (ρ id).blk (cc.toList.take (off*ti.size)++(Builtin.zeroCells zv.cells (n'+1)).toList++cc.toList.drop (off*ti.size+(n'+1)*ti.size)).toArray) (hrun (r:=.tuple #[]) ?_) ⟨ρ,F,h6,h7,.ofv _⟩;rw[e0,had];simp[Builtin.clear_,run_underlying hu,zeroValue,typeInfo,hi,hzz,hst]
 ·cases he
end
end
def ab0(cs:Array Value)(p:Nat×CK):Prop:=match p.2 with
 |.int k=>∃n,cs[p.1]?=some (.int k n)
 |.bool=>∃b,cs[p.1]?=some (.bool b)
 |_=>False
def Hb6(cs ds:Array Value)(p:Nat×CK):Bool:=match cs[p.1]?,ds[p.1]? with
 |some (.int _ a),some (.int _ b)=>a==b
 |some (.bool a),some (.bool b)=>a==b
 |_,_=>false
theorem Ed3{P:Program}{t:TypeId}(h:∀fs,P.underlying t≠some (.struct fs))(h':∀n e,P.underlying t≠some (.array n e)):agT P t=false:=by
 unfold agT
 simp_all
section
variable{P:Program}{w:World}
theorem Hd1{t:TypeId}{cs:Array Value}{off:Nat}{l:List (Nat×CK)}(hu:P.underlying t≠none)(hne:agT P t=false->l≠[]/\∀p∈l,p.1=0)
  (hl:∀p∈l,p.1<szT P t) (hok:∀p∈l,ab0 cs (off+p.1,p.2)) :
  ∃v,(part t cs off).run P w=.ok v w/\(agT P t=true->v=.agg v.cells)/\(agT P t=false->v.cells=#[v])/\∀p∈l,v.cells[p.1]?=cs[off+p.1]?:=by
 cases hd:P.underlying t with
 |none=>exact absurd hd hu
 |some d =>
 obtain⟨ti,hi1,hi2⟩:=Cb4 hd;cases hag:agT P t with
 |true =>
  refine⟨.agg (cs.extract off (off+szT P t)),by simp[part,xb5 hag,sizeOf,typeInfo,hi1,hi2],λ_=>rfl,(λh=>by cases h),λp hp=>?_⟩
  have h1:=hl p hp;have h2:off+p.1<cs.size:=by
   have:=hok p hp
   unfold ab0 at this
   grind
  show (cs.extract off (off+szT P t))[p.1]?=_
  grind
 |false =>
  obtain⟨hne,h0⟩:=hne hag;obtain⟨p,l',rfl⟩:=List.exists_cons_of_ne_nil hne;have hp0:=h0 p (by simp)
  have hv:∃v,cs[off]?=some v/\v.cells=#[v]:=by
   have:=hok p (by simp)
   rw[hp0] at this;unfold ab0 at this
   split at this
   ·obtain⟨n,h⟩:=this;exact⟨_,h,rfl⟩
   ·obtain⟨n,h⟩:=this;exact⟨_,h,rfl⟩
   ·exact this.elim
  obtain⟨v,hv,hc⟩:=hv;refine⟨v,by simp[part,lb4 hag (by rw[hd];simp),hv],(λh=>by cases h),λ_=>hc,λq hq=>?_⟩
  grind
theorem mb4{off n:Nat}{x:Option (List (Nat×CK))}{l:List (Nat×CK)}(h:Cc6 off n x=some l):∃l',x=some l'/\(∀p∈l',p.1<n)/\l=l'.map λp=>(off+p.1,p.2):=by
 unfold Cc6 at h;cases x with
 |none=>cases h
 |some l' =>
  simp only at h
  split at h
  ·rename_i hall;injection h with h;refine⟨l',rfl,λp hp=>?_,h.symm⟩
   have h1:=List.all_eq_true.1 hall p hp
   simp_all
  ·cases h
theorem kf2{v v':Value}{cs ds:Array Value}{off:Nat}{l:List (Nat×CK)}(h:∀p∈l,v.cells[p.1]?=cs[off+p.1]?)(h':∀p∈l,v'.cells[p.1]?=ds[off+p.1]?) :
  l.all (Hb6 v.cells v'.cells)=(l.map λp=>(off+p.1,p.2)).all (Hb6 cs ds):=by
 induction l with
 |nil=>rfl
 |cons p l ih =>
  rw[Qbp,List.all_cons,List.all_cons,ih (λq hq=>h q (by simp[hq])) (λq hq=>h' q (by simp[hq]))]
  congr 1;unfold Hb6
  simp_all
structure Lf0(P:Program)(w:World)(d:Nat)(t:TypeId)(l:List (Nat×CK)):Prop where
 und:P.underlying t≠none
 one:agT P t=false->l≠[]/\∀p∈l,p.1=0
 eq:∀v v':Value,(agT P t=true->v=.agg v.cells)->(agT P t=true->v'=.agg v'.cells)->(agT P t=false->v.cells=#[v])->(agT P t=false->v'.cells=#[v'])->(∀p∈l,ab0 v.cells p)->(∀p∈l,ab0 v'.cells p)->(Op.equalIn d t v v').run P w=.ok (l.all (Hb6 v.cells v'.cells)) w
theorem Lf0.step {d : Nat} {t : TypeId} {l : List (Nat × CK)} (h : Lf0 P w d t l) {xs ys : Array Value} {off : Nat} (hl : ∀ p ∈ l, p.1 < szT P t) (hx : ∀ p ∈ l.map fun p => (off + p.1, p.2), ab0 xs p) (hy : ∀ p ∈ l.map fun p => (off + p.1, p.2), ab0 ys p) :
  ∃a b,(part t xs off).run P w=.ok a w/\(part t ys off).run P w=.ok b w/\(Op.equalIn d t a b).run P w=.ok ((l.map λp=>(off+p.1,p.2)).all (Hb6 xs ys)) w:=by
 have hx':∀p∈l,ab0 xs (off+p.1,p.2):=λp hp=>hx _ (Qbq.2 ⟨p,hp,rfl⟩)
 have hy':∀p∈l,ab0 ys (off+p.1,p.2):=λp hp=>hy _ (Qbq.2 ⟨p,hp,rfl⟩)
 obtain⟨a,a1,a2,a4,a3⟩:=Hd1 (w:=w) h.und h.one hl hx';obtain⟨b,b1,b2,b4,b3⟩:=Hd1 (w:=w) h.und h.one hl hy';refine⟨a,b,a1,b1,?_⟩;rw[<- kf2 a3 b3];refine h.eq a b a2 b2 a4 b4 (λp hp=>?_) (λp hp=>?_)
 ·have:=hx' p hp;unfold ab0 at this ⊢;rw[a3 p hp];exact this
 ·have:=hy' p hp;unfold ab0 at this ⊢;rw[b3 p hp];exact this
theorem Oc6:∀(d:Nat) (t:TypeId) (l:List (Nat×CK)),ka2 P d t=some l->Lf0 P w d t l
 |0,_,_,h=>by cases h
 |d+1,t,l,h=>by
  unfold ka2 at h;cases hu:P.underlying t with
  |none=>simp[hu] at h
  |some u =>
  cases u with
  |int k =>
   simp only[hu] at h;injection h with h;subst h
   have hag:agT P t=false:=Ed3 (by simp[hu]) (by simp[hu])
   refine⟨by simp[hu],λ_=>⟨by simp,by simp⟩,λv v' _ _ k1 k2 h1 h2=>?_⟩
   obtain⟨n,e1⟩:=h1 (0,.int k) (by simp)
   obtain⟨m,e2⟩:=h2 (0,.int k) (by simp)
   rw[k1 hag] at e1;rw[k2 hag] at e2;have e1':v=.int k n:=by simpa using e1
   have e2':v'=.int k m:=by simpa using e2
   subst e1' e2';rw[run_equalIn_int w d t k k n m hu];simp[Hb6,Value.cells]
  |bool =>
   simp only[hu] at h;injection h with h;subst h
   have hag:agT P t=false:=Ed3 (by simp[hu]) (by simp[hu])
   refine⟨by simp[hu],λ_=>⟨by simp,by simp⟩,λv v' _ _ k1 k2 h1 h2=>?_⟩
   obtain⟨n,e1⟩:=h1 (0,.bool) (by simp)
   obtain⟨m,e2⟩:=h2 (0,.bool) (by simp)
   rw[k1 hag] at e1;rw[k2 hag] at e2;have e1':v=.bool n:=by simpa using e1
   have e2':v'=.bool m:=by simpa using e2
   subst e1' e2';rw[run_equalIn_bool w d t n m hu];simp[Hb6,Value.cells]
  |struct fs =>
   simp only[hu] at h
   split at h
   ·cases h
   rename_i hp;refine⟨by simp[hu],λhag=>by simp[agT,hu] at hag,λv v' h1 h2 _ _ h3 h4=>?_⟩
   have hag:agT P t=true:=by simp[agT,hu]
   rw[h1 hag,h2 hag];generalize v.cells=xs at *
   generalize v'.cells=ys at *
   have hfo:P.fieldsOf t=fs:=by simp[Program.fieldsOf,hu]
   rw[run_equalIn_struct w d t xs ys (by rw[hfo];exact hu) (by simpa using hp),hfo]
   show _=Result.ok (l.all (Hb6 xs ys)) w
   clear hfo hu h1 h2 hag
   generalize fs.toList=fl at *
   induction fl generalizing l with
   |nil =>
    simp only[List.map_nil,Ba9] at h;injection h with h;subst h
    simp[Op.eqFields]
   |cons f fl ih =>
    simp only[Qbp,Ba9] at h
    split at h
    ·rename_i l1 l2 e1 e2;injection h with h;subst h
     split at e1
     ·cases e1
     rename_i hnm;obtain⟨l',g1,g2,g3⟩:=mb4 e1;subst g3;obtain⟨a,b,p1,p2,p3⟩:=(Oc6 d f.type l' g1).step (w:=w) g2 (λp hp=>h3 p (Qbj _ hp)) (λp hp=>h4 p (Qbj _ hp))
     rw[List.all_append];simp only[Op.eqFields];rw[if_pos hnm];simp only[Sem.run_bind,p1,p2,p3,Result.andThen_ok];cases hb:((l'.map λp=>(f.offset+p.1,p.2)).all (Hb6 xs ys)) with
     |false=>simp
     |true =>
      grind
    ·cases h
  |array n e =>
   simp only[hu] at h
   split at h
   case isFalse=>cases h
   rename_i hi;obtain⟨ti,hi⟩:=Qbd.1 hi;refine⟨by simp[hu],λhag=>by simp[agT,hu] at hag,λv v' h1 h2 _ _ h3 h4=>?_⟩
   have hag:agT P t=true:=by simp[agT,hu]
   rw[h1 hag,h2 hag];generalize v.cells=xs at *
   generalize v'.cells=ys at *
   have hsz:P.cellsOf e=szT P e:=by simp[Program.cellsOf,szT,hi]
   rw[run_equalIn_array w d xs ys hu hi,hsz];show _=Result.ok (l.all (Hb6 xs ys)) w
   clear hu h1 h2 hag
   generalize List.range n=fl at *
   induction fl generalizing l with
   |nil =>
    simp only[List.map_nil,Ba9] at h;injection h with h;subst h
    simp[Op.eqItems]
   |cons f fl ih =>
    simp only[Qbp,Ba9] at h
    split at h
    ·rename_i l1 l2 e1 e2;injection h with h;subst h
     obtain⟨l',g1,g2,g3⟩:=mb4 e1;subst g3;obtain⟨a,b,p1,p2,p3⟩:=(Oc6 d e l' g1).step (w:=w) g2 (λp hp=>h3 p (Qbj _ hp)) (λp hp=>h4 p (Qbj _ hp))
     rw[List.all_append];simp only[Op.eqItems];simp only[Sem.run_bind,p1,p2,p3,Result.andThen_ok];cases hb:((l'.map λp=>(f*szT P e+p.1,p.2)).all (Hb6 xs ys)) with
     |false=>simp
     |true =>
      grind
    ·cases h
  |_=>simp[hu] at h
end
section
variable{W:Nat->Prop}{ρ:Rho}{H H':List c7}{F:Fz}{w:World}{E:Env}{o:Oper}{a:List b7}{ac:Act}{x:b7}
theorem dd2(cs:List b7)(n:Nat):hdA (s9 cs n)=(cs[n]?).getD .unk:=by
 rw[I9]
 induction cs generalizing n with
 |nil=>cases n<;>rfl
 |cons c r ih =>
  cases n with
  |zero=>rfl
  |succ n=>simpa using ih n
theorem Cc8{cs:List b7}{vs:Array Value}(hl:cs.length=vs.size)(hr:∀(i:Nat) x x',cs[i]?=some x->vs[i]?=some x'->ea9 ρ H F w x x'){k:CK}{n:Nat}(hk:(∃i,k=.int i)\/k=.bool)(h:Rc9 k (hdA (s9 cs n))=true) :
  ab0 vs (n,k)/\∃v,vs[n]?=some v/\hdA (s9 cs n)=.v v:=by
 rw[dd2] at h ⊢
 rcases Qaq n cs.length with hlt|hge
 ·rw[Qaa hlt] at h ⊢;simp only[Option.getD_some] at h ⊢;have hlt':n<vs.size:=hl ▸ hlt;have hc:=hr n _ _ (Qaa hlt) (Qac hlt');generalize cs[n]=y at *
  have hy:∃v,y=.v v/\((∃i m,k=.int i/\v=.int i m)\/(k=.bool/\∃m,v=.bool m)):=by
   rcases hk with⟨i,rfl⟩|rfl
   ·cases y with
    |v u =>
     cases u with
     |int k' m =>
      have:i=k':=by simpa [Rc9] using h
      simp_all
     |_=>cases h
    |_=>cases h
   ·cases y with
    |v u =>
     cases u with
     |bool m=>exact⟨_,rfl,.inr ⟨rfl,_,rfl⟩⟩
     |_=>cases h
    |_=>cases h
  obtain⟨v,rfl,hv⟩:=hy
  have:=fa0 (.val (.cell hc))
  refine⟨?_,v,by rw[Qac hlt',this],rfl⟩
  rcases hv with⟨i,m,rfl,rfl⟩|⟨rfl,m,rfl⟩
  ·exact⟨m,by rw[Qac hlt',this]⟩
  ·exact⟨m,by rw[Qac hlt',this]⟩
 ·rw[Qat hge] at h
  rcases hk with⟨i,rfl⟩|rfl<;>cases h
theorem Rb2{P:Program}:∀(d:Nat) (t:TypeId) (l:List (Nat×CK)),ka2 P d t=some l->∀p∈l,(∃i,p.2=.int i)\/p.2=.bool
 |0,_,_,h=>by cases h
 |d+1,t,l,h=>by
  have hs:∀{off n:Nat} {e:TypeId} {l:List (Nat×CK)},Cc6 off n (ka2 P d e)=some l->∀p∈l,(∃i,p.2=.int i)\/p.2=.bool:=λ{off n e l} h p hp=>by
   obtain⟨l',g1,_,rfl⟩:=mb4 h;obtain⟨q,hq,rfl⟩:=Qbq.1 hp;exact Rb2 d e l' g1 q hq
  have hc:∀(xs:List (Option (List (Nat×CK)))) (l:List (Nat×CK)),(∀x∈xs,∀l,x=some l->∀p∈l,(∃i,p.2=.int i)\/p.2=.bool)->Ba9 xs=some l->∀p∈l,(∃i,p.2=.int i)\/p.2=.bool:=λxs=>by
   induction xs with
   |nil=>intro l _ h;simp only[Ba9] at h;injection h with h;subst h;simp
   |cons x xs ih =>
    intro l hx h;simp only[Ba9] at h;cases x with
    |none=>cases h
    |some l1 =>
    cases e2:Ba9 xs with
    |none=>simp[e2] at h
    |some l2 =>
    simp only[e2] at h;injection h with h;subst h
    intro p hp
    rcases List.mem_append.1 hp with hp|hp
    ·exact hx (some l1) (by simp) _ rfl p hp
    ·exact ih l2 (λx hx'=>hx x (by simp[hx'])) e2 p hp
  unfold ka2 at h
  grind
theorem Cc9{α:Type}{f g:α->Option (List (Nat×CK))}(h:∀x l,f x=some l->g x=some l):∀(xs:List α) (l:List (Nat×CK)),Ba9 (xs.map f)=some l->Ba9 (xs.map g)=some l
 |[],_,e=>e
 |x::xs,l,e=>by
  simp only[Qbp,Ba9] at e ⊢;cases h1:f x with
  |none=>simp[h1] at e
  |some l1 =>
  cases h2:Ba9 (xs.map f) with
  |none=>simp[h1,h2] at e
  |some l2 =>
  rw[h x l1 h1,Cc9 h xs l2 h2];simpa [h1,h2] using e
theorem vd2{off n:Nat}{x y:Option (List (Nat×CK))}(h:∀l,x=some l->y=some l){l:List (Nat×CK)}(e:Cc6 off n x=some l):Cc6 off n y=some l:=by
 cases hx:x with
 |none=>rw[hx] at e;cases e
 |some l'=>rw[h l' hx,<- hx];exact e
theorem Hd2{P:Program}:∀(d:Nat) (t:TypeId) (l:List (Nat×CK)),ka2 P d t=some l->ka2 P (d+1) t=some l
 |0,_,_,h=>by cases h
 |d+1,t,l,h=>by
  have ih:=Hd2 (P:=P) d;unfold ka2 at h ⊢
  split at h
  ·exact h
  ·exact h
  ·split at h
   ·cases h
   ·rename_i h1;rw[if_neg h1];refine Cc9 (λf l e=>?_) _ _ h
    split at e
    ·cases e
    ·rename_i h2;rw[if_neg h2];exact vd2 (ih _) e
  ·split at h
   ·rename_i h1;rw[if_pos h1];exact Cc9 (λf l e=>vd2 (ih _) e) _ _ h
   ·cases h
  ·cases h
theorem Xc8{P:Program}{d:Nat}{t:TypeId}{l:List (Nat×CK)}(h:ka2 P d t=some l):∀k,ka2 P (d+k) t=some l
 |0=>h
 |k+1=>Hd2 _ _ _ (Xc8 h k)
theorem Hd3{fl:List (Nat×CK)}{cs:List b7}(h:Oe0 fl cs=true):∀p∈fl,Rc9 p.2 (hdA (s9 cs p.1))=true:=by
 induction fl with
 |nil=>simp
 |cons p fl ih =>
  have h':Bool.and (Rc9 p.2 (hdA (s9 cs p.1))) (Oe0 fl cs)=true:=h
  simp_all
section
variable(hA:Ia4 ρ H F w a ac.tmps)(hH:J0 W ρ H F w)(hG:GOk E F w)
include hA hH hG
theorem ce9{op:BinOp}{neg:Bool}{t u:TypeId}{y z:Operand}{fl:List (Nat×CK)}(ho:o.op=.binOp op t y z u)(hop:(op=.eql/\neg=false)\/(op=.neq/\neg=true))(hag:agT E.P t=true)(hf:ka2 E.P 9 t=some fl)(hgt:E.P.eqGuardType E.P.depth t=false)
  (he:(evalOp E a H (.eqc neg fl (o7 y) (o7 z))).run=some (x,H')):s4 E.P o ac w (U3 W ρ H F w x H'):=by
 have hy:=A9 hA hG y;have hz:=A9 hA hG z;simp only[evalOp] at he
 revert he hy hz
 generalize c9 E a (o7 y)=p;generalize c9 E a (o7 z)=q;intro he hy hz
 split at he
 case h_2=>cases he
 rename_i cs ds;have hh:=DT.run_guard_some he
 clear he
 obtain⟨hg,he⟩:=hh;simp only[Qas] at hg;have he':some (b7.v (.bool (Xf0 neg (Sc0 fl cs ds))),H)=some (x,H'):=he;injection he' with he';injection he' with e1 e2;subst e1 e2
 obtain⟨vs,ey,hl,hr⟩:=Ja5 hy;obtain⟨us,ez,hl',hr'⟩:=Ja5 hz;have hk:=Rb2 9 t fl hf;have h1:=Hd3 hg.1;have h2:=Hd3 hg.2;have k1:∀p∈fl,ab0 vs p:=λp hp=>(Cc8 hl hr (hk p hp) (h1 p hp)).1
 have k2:∀p∈fl,ab0 us p:=λp hp=>(Cc8 hl' hr' (hk p hp) (h2 p hp)).1
 have hF':=(Oc6 (w:=w) (9+9991) t fl (Xc8 hf 9991)).eq (.agg vs) (.agg us) (λ_=>rfl) (λ_=>rfl) (λh=>by rw[hag] at h;cases h) (λh=>by rw[hag] at h;cases h) k1 k2
 have heq:fl.all (Hb6 vs us)=Sc0 fl cs ds:=by
  clear hF' hg hf he
  induction fl with
  |nil=>rfl
  |cons p fl ih =>
   have e:Sc0 (p::fl) cs ds=(dg4 p.2 (hdA (s9 cs p.1)) (hdA (s9 ds p.1))&&Sc0 fl cs ds):=rfl;rw[List.all_cons,ih (λq hq=>hk q (by simp[hq])) (λq hq=>h1 q (by simp[hq])) (λq hq=>h2 q (by simp[hq])) (λq hq=>k1 q (by simp[hq])) (λq hq=>k2 q (by simp[hq])),e]
   congr 1;obtain⟨g1,v,g2,g3⟩:=Cc8 hl hr (hk p (by simp)) (h1 p (by simp))
   obtain⟨g4,v',g5,g6⟩:=Cc8 hl' hr' (hk p (by simp)) (h2 p (by simp))
   obtain⟨n,kk⟩:=p
   simp only at *
   rw[g3,g6];unfold Hb6;rw[g2,g5]
   rcases hk (n,kk) (by simp) with⟨i,hi⟩|hi
   ·simp only at hi;subst hi
    obtain⟨m,hm⟩:=g1;obtain⟨m',hm'⟩:=g4;simp only[g2,g5,Option.some.injEq] at hm hm';subst hm hm';rfl
   ·simp only at hi;subst hi
    obtain⟨m,hm⟩:=g1;obtain⟨m',hm'⟩:=g4;simp only[g2,g5,Option.some.injEq] at hm hm';subst hm hm';rfl
 rw[<- heq];have hF':(Op.equalIn 10000 t (.agg vs) (.agg us)).run E.P w=.ok (fl.all (Hb6 vs us)) w:=hF'
 rcases hop with⟨rfl,rfl⟩|⟨rfl,rfl⟩
 ·refine .value (x':=.bool (fl.all (Hb6 vs us))) (w':=w) ?_ (.stay hH (.ofv _));simp only[execOp,ho,ey,ez,Sem.run_bind,run_eqGuard_agg w .eql t y z vs us hgt,Result.andThen_ok,run_eql_struct,hF',Sem.run_pure]
 ·refine .value (x':=.bool (!(fl.all (Hb6 vs us)))) (w':=w) ?_ (.stay hH (.ofv _));simp only[execOp,ho,ey,ez,Sem.run_bind,run_eqGuard_agg w .neq t y z vs us hgt,Result.andThen_ok,run_neq_struct,hF',Sem.run_pure]
end
end
def Rb3(P:Program)(f:FuncId):Prop:=∃fn,P.funcs[f]?=some fn/\fn.body.isSome=true/\fn.name ≠ "runtime.NumGoroutine"
def l8(P:Program)(G:Nat->List Value)(f:FuncId)(S:List b7->List c7->DT (b7×List c7)):Prop :=
 ∀(args:List b7) (blks:List c7) (r:b7) (out:List c7),(S args blks).run=some (r,out) ->
  ∀(W:Nat->Prop) (ρ:Rho) (F:Fz) (w:World) (args':List Value),J0 W ρ blks F w->args.length=args'.length->(∀(i:Nat) x x',args[i]?=some x->args'[i]?=some x'->K8 ρ blks F w x x') ->
   (∀g (c:Nat) x,(G g)[c]?=some x->x.oneCell'=true/\F g c/\w.cell? ⟨g,c,none⟩=some x) ->
   Rb3 P f/\Calls P f args'.toArray w λe w'=>∃r',e=.returned r'/\U3 W ρ blks F w r out r' w'
section
variable{W:Nat->Prop}{ρ ρ1:Rho}{H H2 blks out:List c7}{F F1:Fz}{w w1:World}
def kf3(ρ:Rho)(H:List c7)(lent:Nat->Prop):Fz:=λb o=>∃id bb,lent id/\H[id]?=some bb/\bb.own=true/\b=(ρ id).blk/\(ρ id).off<=o/\o<(ρ id).off+bb.elems.length*bb.es
def de0(ρ:Rho)(H:List c7)(F:Fz)(lent:Nat->Prop):Fz:=λb o=>F b o\/kf3 ρ H lent b o
def dd3(W:Nat->Prop)(ρ:Rho)(H:List c7)(w:World)(pos:Nat->Option Nat):Nat->Prop :=
 λk=>W k/\(w.heap.size<=k\/∃id b j,pos id=some j/\H[id]?=some b/\b.own=true/\(ρ id).blk=k)
def Uc2(ρ:Rho)(H:List c7)(F F1:Fz)(lent:Nat->Prop)(held:Prop):Fz:=λb o=>F1 b o/\(held\/¬ kf3 ρ H lent b o\/F b o)
def Da7(ρ ρ1:Rho)(n k:Nat)(pos:Nat->Option Nat):Rho:=λid=>match pos id with
 |some j=>ρ1 j
 |none=>if id<n then ρ id else ρ1 (k+(id-n))
structure Ae1(H:List c7)(blks out H2:List c7)(pos:Nat->Option Nat)(lent:Nat->Prop)(held:Prop):Prop where
 posLt:∀id j,pos id=some j->id<H.length/\j<blks.length
 posInj:∀id id' j,pos id=some j->pos id'=some j->id=id'
 posAll:∀j,j<blks.length->∃id,pos id=some j
 blkOk:∀(id j:Nat) b,pos id=some j->H[id]?=some b->blks[j]?=some { b with g:=0 }/\b.dead=false
 lentOk:∀id,lent id->pos id=none/\∃b,H[id]?=some b/\b.dead=false
 outLen:blks.length<=out.length
 old:∀(id:Nat) b2,id<H.length->pos id=none->H2[id]?=some b2->∃b,H[id]?=some b/\b2={ b with own:=b2.own }/\(b2.own=b.own\/(held/\lent id/\b2.own=false))
 oldDis:∀(id:Nat) b2,held->lent id->H2[id]?=some b2->b2.own=false
 root:∀(id j:Nat) b2,pos id=some j->H2[id]?=some b2->∃b c,H[id]?=some b/\out[j]?=some c/\b2={ c with g:=b.g+c.g }
 new:∀(id:Nat) b2,H.length<=id->H2[id]?=some b2->out[blks.length+(id-H.length)]?=some b2
 len:H2.length=H.length+(out.length-blks.length)
theorem Ae1.start{pos:Nat->Option Nat}{lent:Nat->Prop}{held:Prop}(hS:Ae1 H blks out H2 pos lent held)(hH:J0 W ρ H F w)(inv:Nat->Nat)(hinv:∀j,j<blks.length->pos (inv j)=some j) :
  J0 (dd3 W ρ H w pos) (λj=>ρ (inv j)) blks (de0 ρ H F lent) w:=by
 have hsub:∀(j:Nat) c,blks[j]?=some c->∃b,H[inv j]?=some b/\c={ b with g:=0 }/\b.dead=false:=λj c hc=>by
  have hj:=(Qab.1 hc).1;have hp:=hinv j hj;have hlt:=(hS.posLt _ _ hp).1;obtain⟨h1,h2⟩:=hS.blkOk _ j _ hp (Qaa hlt);exact⟨H[inv j],Qaa hlt,Qag (hc.symm.trans h1),h2⟩
 have hL:∀(id:Nat) b,(∃j,pos id=some j)->H[id]?=some b->b.dead=false->b.own=true->∀o,¬ kf3 ρ H lent (ρ id).blk o:=λid b hj hb hd ho o hl=>by
  obtain⟨id',bb,hl1,hb',ho',he,_⟩:=hl;obtain⟨hn,b2,hb2,hd2⟩:=hS.lentOk id' hl1
  have:b2=bb:=Qag (hb2.symm.trans hb')
  subst this;have hne:id≠id':=λe=>by subst e;obtain⟨j,hj⟩:=hj;rw[hn] at hj;cases hj
  exact hH.apart id id' b b2 hb hb' hd hd2 ho hne he
 refine⟨λj c hc _=>?_,λj j' c c' hc hc' _ _ ho hne=>?_,λb o hf=>?_,λk hk=>⟨hH.new k hk,.inl hk⟩⟩
 ·obtain⟨b,hb,rfl,hd⟩:=hsub j c hc;have hp:=hinv j (Qab.1 hc).1;obtain⟨cc,t,fr,hB⟩:=hH.blk _ b hb hd;refine⟨cc,t,fr,hB.obj,hB.room,hB.len,hB.rows,λi r k x hr hx=>?_,λho=>?_,λho o hlt=>.inl (hB.kept ho o hlt)⟩
  ·obtain⟨x',h1,h2⟩:=hB.cell i r k x hr hx;exact⟨x',h1,h2.adv (λ_ _ h=>.inl h) (λ_ _ _=>rfl)⟩
  ·obtain⟨h1,h2,h3,h4,h5,h6⟩:=hB.own ho;refine⟨h1,⟨h2,.inr ⟨inv j,b,j,hp,hb,ho,rfl⟩⟩,h3,h4,λo hf=>?_,h6⟩
   rcases hf with hf|hf
   ·exact h5 o hf
   simp_all
 ·obtain⟨b,hb,rfl,hd⟩:=hsub j c hc;obtain⟨b',hb',rfl,hd'⟩:=hsub j' c' hc';refine hH.apart _ _ b b' hb hb' hd hd' ho λe=>hne ?_
  grind
 ·rcases hf with hf|⟨id,bb,hl,hb,ho,rfl,h1,h2⟩
  ·exact hH.frz b o hf
  ·obtain⟨hn,b2,hb2,hd2⟩:=hS.lentOk id hl
   have:b2=bb:=Qag (hb2.symm.trans hb)
   subst this;obtain⟨cc,t,fr,hB⟩:=hH.blk id b2 hb hd2;rw[hB.cellAt]
   have:o<cc.size:=by have:=hB.room;have:=hB.len;omega
   simp[this]
theorem Ae2{x:b7}(h:cd1 x=true)(hx:ke8 x=false):lb1 x=false:=by
 cases x with
 |fn=>cases h
 |tree=>cases hx
 |tptr=>cases hx
 |_=>rfl
theorem fa8.bare{x:b7}{x':Value}{F':Fz}{w':World}(h:fa8 F w x x')(hx:lb1 x=false):fa8 F' w' x x':=by
 induction h with
 |v _ h1=>exact .v _ h1
 |fn f caps vs x' e hl hb h ih =>
  refine .fn f caps vs x' e hl hb λi hi hi'=>ih i hi hi' ?_
  have hx':caps.any ke8=false:=hx;rw[Qbk] at hx';exact Ae2 (Cc7 hb _ (List.getElem_mem hi)) (by simpa using hx' _ (List.getElem_mem hi))
 |tree=>cases hx
 |nil=>cases hx
theorem Ae1.join{pos:Nat->Option Nat}{lent:Nat->Prop}{held:Prop}(hS:Ae1 H blks out H2 pos lent held)(hH:J0 W ρ H F w)(inv:Nat->Nat)(hinv:∀j,j<blks.length->pos (inv j)=some j)
  (hA:Adv (dd3 W ρ H w pos) (λj=>ρ (inv j)) blks (de0 ρ H F lent) w ρ1 out F1 w1) (h1:J0 (dd3 W ρ H w pos) ρ1 out F1 w1)
  (hbare:held\/∀(i:Nat) c (j:Nat) r (k:Nat) x,out[i]?=some c->c.elems[j]?=some r->r[k]?=some x->lb1 x=false) :
  Adv W ρ H F w (Da7 ρ ρ1 H.length blks.length pos) H2 (Uc2 ρ H F F1 lent held) w1/\J0 W (Da7 ρ ρ1 H.length blks.length pos) H2 (Uc2 ρ H F F1 lent held) w1:=by
 have hFF1:∀b o,F b o->F1 b o:=λb o h=>hA.more b o (.inl h)
 have hmore:∀b o,F b o->Uc2 ρ H F F1 lent held b o:=λb o h=>⟨hFF1 b o h,.inr (.inr h)⟩
 have hcells:∀b o,F b o->w1.cell? ⟨b,o,none⟩=w.cell? ⟨b,o,none⟩:=λb o h=>hA.ext.cells b o (.inl h)
 -- the ids
 have hρroot:∀id j,pos id=some j->Da7 ρ ρ1 H.length blks.length pos id=ρ1 j:=λid j h=>by simp[Da7,h]
 have hρold:∀id,id<H.length->pos id=none->Da7 ρ ρ1 H.length blks.length pos id=ρ id:=λid hid h=>by simp[Da7,h,hid]
 have hposnew:∀id,H.length<=id->pos id=none:=λid hid=>by
  cases h:pos id with
  |none=>rfl
  |some j=>have:=(hS.posLt id j h).1;omega
 have hρnew:∀id,H.length<=id->Da7 ρ ρ1 H.length blks.length pos id=ρ1 (blks.length+(id-H.length)):=λid hid=>by
  have:¬ id<H.length:=by omega
  simp[Da7,hposnew id hid,this]
 have hposinv:∀id j,pos id=some j->inv j=id:=λid j h=>hS.posInj _ _ j (hinv j (hS.posLt id j h).2) h
 -- a block of the caller's own,not handed over,is no block of the callee's
 have hnotW:∀(id:Nat) b,H[id]?=some b->b.dead=false->b.own=true->pos id=none->¬ dd3 W ρ H w pos (ρ id).blk:=λid b hb hd ho hp hw=>by
  obtain⟨cc,t,fr,hB⟩:=hH.blk id b hb hd
  rcases hw.2 with hge|⟨id',b',j,hp',hb',ho',he⟩
  ·have:=hB.lt;omega
  ·have hne:id≠id':=λe=>by subst e;rw[hp] at hp';cases hp'
   exact hH.apart id id' b b' hb hb' hd (hS.blkOk id' j b' hp' hb').2 ho hne he.symm
 have hblkOld:∀(id:Nat) b,H[id]?=some b->b.dead=false->pos id=none->¬ dd3 W ρ H w pos (ρ id).blk->w1.heap[(ρ id).blk]?=w.heap[(ρ id).blk]?:=λid b hb hd hp hn=>by
  obtain⟨cc,t,fr,hB⟩:=hH.blk id b hb hd;exact hA.ext.block _ hB.lt hn
 -- any old block,handed over or not: not in the callee's hands unless it is owned and a root
 have hnotW':∀(id:Nat) b,H[id]?=some b->b.dead=false->pos id=none->¬ dd3 W ρ H w pos (ρ id).blk:=λid b hb hd hp hw=>by
  obtain⟨cc,t,fr,hB⟩:=hH.blk id b hb hd
  rcases hw.2 with hge|⟨id',b',j,hp',hb',ho',he⟩
  ·have:=hB.lt;omega
  ·have hne:id'≠id:=λe=>by subst e;rw[hp] at hp';cases hp'
   exact hH.apart id' id b' b hb' hb (hS.blkOk id' j b' hp' hb').2 hd ho' hne he
 have hLold:∀b o,kf3 ρ H lent b o->¬ dd3 W ρ H w pos b:=λb o hl hw=>by
  obtain⟨id,bb,hl1,hb,ho,rfl,_⟩:=hl;obtain⟨hn,b2,hb2,hd2⟩:=hS.lentOk id hl1;exact hnotW' id b2 hb2 hd2 hn hw
 -- where F1 is new
 have hF1:∀b o,F1 b o->F b o\/kf3 ρ H lent b o\/dd3 W ρ H w pos b:=λb o h=>by
  rcases hA.new b o h with (h|h)|h
  ·exact .inl h
  ·exact .inr (.inl h)
  ·exact .inr (.inr h)
 -- the callee's block j,asq the caller knows it
 have hcallee : ∀ (j : Nat) c, out[j]? = some c → c.dead = false →
   ∀(id':Nat) b',H[id']?=some b'->b'.dead=false->pos id'=none->(b'.own=true\/c.own=true)->(ρ1 j).blk≠(ρ id').blk:=λj c hc hcd id' b' hb' hd' hp' ho e=>by
  have hinW:dd3 W ρ H w pos (ρ1 j).blk->False:=λhw=>hnotW' id' b' hb' hd' hp' (e ▸ hw)
  rcases ho with ho|ho
  ·by_cases hf:∀b,blks[j]?=some b->c.g≠b.g
   ·exact hinW (hA.fresh j c hc hf)
   ·have:∃b,blks[j]?=some b/\c.g=b.g:=Classical.byContradiction λhne=>hf λb hb hg=>hne ⟨b,hb,hg⟩
    obtain⟨b0,hb0,hg0⟩:=this;obtain⟨c',hc',_,_,e4⟩:=hA.heap j b0 hb0
    have:c'=c:=Qag (hc'.symm.trans hc)
    subst this;have hρ:=(e4 hg0).1;have hjlt:=(Qab.1 hb0).1;have hp:=hinv j hjlt;have hlt:=(hS.posLt _ _ hp).1;have hroot:=hS.blkOk _ j _ hp (Qaa hlt);have hne:id'≠inv j:=λe=>by rw[e,hp] at hp';cases hp'
    rw[hρ] at e;exact hH.apart id' (inv j) b' _ hb' (Qaa hlt) hd' hroot.2 ho hne e.symm
  ·obtain⟨cc,t,fr,hB⟩:=h1.blk j c hc hcd;exact hinW (hB.own ho).2.1
 -- each block of the new heap
 have hsplit : ∀ (id : Nat) b2, H2[id]? = some b2 → (∃ b, id < H.length ∧ pos id = none ∧ H[id]? = some b ∧ b2 = { b with own := b2.own } ∧ (b2.own = b.own ∨ (held ∧ lent id ∧ b2.own = false))) ∨
   (∃j b c,pos id=some j/\H[id]?=some b/\out[j]?=some c/\b2={ c with g:=b.g+c.g }/\Da7 ρ ρ1 H.length blks.length pos id=ρ1 j) \/
   (∃j,H.length<=id/\j=blks.length+(id-H.length)/\out[j]?=some b2/\Da7 ρ ρ1 H.length blks.length pos id=ρ1 j):=λid b2 hb2=>by
  rcases Qaq id H.length with hid|hid
  ·cases hp:pos id with
   |none =>
    obtain⟨b,h2,h3,h4⟩:=hS.old id b2 hid hp hb2;exact .inl ⟨b,hid,rfl,h2,h3,h4⟩
   |some j =>
    obtain⟨b,c,h2,h3,h4⟩:=hS.root id j b2 hp hb2;exact .inr (.inl ⟨j,b,c,rfl,h2,h3,h4,hρroot id j hp⟩)
  ·exact .inr (.inr ⟨_,hid,rfl,hS.new id b2 hid hb2,hρnew id hid⟩)
 have hm1:∀{i:Nat} {c:c7} {j:Nat} {r:List b7} {k:Nat} {x:b7} {x':Value},out[i]?=some c->c.elems[j]?=some r->r[k]?=some x->fa8 F1 w1 x x'->fa8 (Uc2 ρ H F F1 lent held) w1 x x':=λ{i c j r k x x'} h2 h3 h4 hm=>by
  rcases hbare with hh|hh
  ·exact hm.adv (λb o h=>⟨h,.inl hh⟩) (λ_ _ _=>rfl)
  ·exact hm.bare (hh i c j r k x h2 h3 h4)
 -- the callee's own blocks stand in the new relation
 have hBout:∀(j:Nat) c,out[j]?=some c->c.dead=false->∀g,∃cc t fr,Ad1 W (Uc2 ρ H F F1 lent held) w1 (ρ1 j) { c with g:=g } cc t fr:=λj c hc hcd g=>by
  obtain⟨cc,t,fr,hB⟩:=h1.blk j c hc hcd;refine⟨cc,t,fr,hB.obj,hB.room,hB.len,hB.rows,λi r k x hr hx=>?_,λho=>?_,λho o hlt=>?_⟩
  ·obtain⟨x',h2,h3⟩:=hB.cell i r k x hr hx;exact⟨x',h2,hm1 hc hr hx h3⟩
  ·obtain⟨g1,g2,g3,g4,g5,g6⟩:=hB.own ho;exact⟨g1,g2.1,g3,g4,λo hf=>g5 o hf.1,g6⟩
  ·have hk:=hB.kept ho o hlt;by_cases hl:kf3 ρ H lent (ρ1 j).blk ((ρ1 j).off+o)
   ·obtain⟨id',bb,hl1,hb',ho',he,_⟩:=hl;obtain⟨hn,b2,hb2,hd2⟩:=hS.lentOk id' hl1
    have:b2=bb:=Qag (hb2.symm.trans hb')
    subst this;exact absurd he (hcallee j c hc hcd id' b2 hb' hd2 hn (.inl ho'))
   ·exact⟨hk,.inr (.inl hl)⟩
 -- the caller's other blocks
 have hBold : ∀ (id : Nat) b (b2 : c7), id < H.length → pos id = none → H[id]? = some b → b.dead = false → b2 = { b with own := b2.own } → (b2.own = b.own ∨ (held ∧ lent id ∧ b2.own = false)) → (held → lent id → b2.own = false) →
   ∃cc t fr,Ad1 W (Uc2 ρ H F F1 lent held) w1 (ρ id) b2 cc t fr:=λid b b2 hid hp hb hd e ho hdis=>by
  obtain⟨cc,t,fr,hB⟩:=hH.blk id b hb hd;have hobj:=hblkOld id b hb hd hp (hnotW' id b hb hd hp);have e1:b2.elems=b.elems:=by rw[e]
  have e2:b2.es=b.es:=by rw[e]
  have e3:b2.et=b.et:=by rw[e]
  refine⟨cc,t,fr,hobj.trans hB.obj,hB.room,by rw[e1,e2];exact hB.len,by rw[e1,e2];exact hB.rows,λi r k x hr hx=>?_,λho2=>?_,λho2 o hlt=>?_⟩
  ·rw[e1] at hr;obtain⟨x',h2,h3⟩:=hB.cell i r k x hr hx;rw[e2];exact⟨x',h2,h3.adv hmore hcells⟩
  ·have hbo : b.own = true := by
    rcases ho with ho|⟨_,_,ho⟩
    ·rw[<- ho];exact ho2
    ·rw[ho] at ho2;cases ho2
   obtain⟨g1,g2,g3,g4,g5,g6⟩:=hB.own hbo;refine⟨g1,g2,g3,g4,λo hf=>?_,by rw[e3];exact g6⟩
   obtain⟨hf1,hf2⟩:=hf
   rcases hF1 _ _ hf1 with h|h|h
   ·exact g5 o h
   ·rcases hf2 with hh|hh|hh
    ·-- held: the lent block is another one
     obtain⟨id',bb,hl1,hb',ho',he,_⟩:=h;obtain⟨hn,b3,hb3,hd3⟩:=hS.lentOk id' hl1
     have:b3=bb:=Qag (hb3.symm.trans hb')
     subst this;by_cases heq:id=id'
     ·subst heq;rw[hdis hh hl1] at ho2;cases ho2
     ·exact hH.apart id id' b b3 hb hb' hd hd3 hbo heq he
    ·exact hh h
    ·exact g5 o hh
   ·exact hnotW id b hb hd hbo hp h
  ·rw[e1,e2] at hlt;cases hbo:b.own with
   |false=>exact hmore _ _ (hB.kept hbo o hlt)
   |true =>
    rcases ho with ho|⟨hh,hl,_⟩
    ·rw[hbo,ho2] at ho;cases ho
    ·refine⟨hA.more _ _ (.inr ⟨id,b,hl,hb,hbo,rfl,by omega,by omega⟩),.inl hh⟩
 have hdisAll:∀(id:Nat) b2,H2[id]?=some b2->held->lent id->b2.own=false:=λid b2 hb2 hh hl=>hS.oldDis id b2 hh hl hb2
 constructor
 ·refine⟨⟨hA.ext.os,hA.ext.tape,hA.ext.output,hA.ext.size,λk hk hw=>hA.ext.block k hk λh=>hw h.1,hcells,hA.ext.drawn⟩,λid b hb=>?_,hmore,λb o hf=>?_,λid b2 hb2 hn=>?_⟩
  ·have hid:=(Qab.1 hb).1;have hlt2:id<H2.length:=by have:=hS.len;omega
   have hb2:H2[id]?=some H2[id]:=Qaa hlt2
   rcases hsplit id _ hb2 with⟨b',_,hp,hb',e,_⟩|⟨j,b',c,hp,hb',hc,e,hρ⟩|⟨j,hge,_⟩
   ·grind
   ·have:b'=b:=Qag (hb'.symm.trans hb)
    subst this;obtain⟨hbj,hdb⟩:=hS.blkOk id j b' hp hb;obtain⟨c',hc',d1,d2,d3⟩:=hA.heap j _ hbj
    grind
   ·omega
  ·rcases hF1 b o hf.1 with h|h|h
   ·exact .inl h
   ·obtain⟨id',bb,hl1,hb',ho',rfl,_⟩:=h;obtain⟨hn,b3,hb3,hd3⟩:=hS.lentOk id' hl1
    have:b3=bb:=Qag (hb3.symm.trans hb')
    subst this;obtain⟨cc,t,fr,hB⟩:=hH.blk id' b3 hb' hd3;exact .inr (hB.own ho').2.1
   ·exact .inr h.1
  ·rcases hsplit id b2 hb2 with⟨b',_,hp,hb',e,_⟩|⟨j,b',c,hp,hb',hc,e,hρ⟩|⟨j,hge,hj,hc,hρ⟩
   ·grind
   ·rw[hρ];refine (hA.fresh j c hc λbj hbj=>?_).1
    obtain⟨hbj',_⟩:=hS.blkOk id j b' hp hb'
    have:bj={ b' with g:=0 }:=Qag (hbj.symm.trans hbj')
    subst this;intro hg;refine hn b' hb' ?_;rw[e]
    simp at hg ⊢
    omega
   ·rw[hρ];refine (hA.fresh j b2 hc λbj hbj=>?_).1
    have:=(Qab.1 hbj).1
    omega
 ·refine⟨λid b2 hb2 hd2=>?_,λid id' b b' hb hb' hd hd' ho hne=>?_,λb o hf=>h1.frz b o hf.1,λk hk=>(h1.new k hk).1⟩
  ·rcases hsplit id b2 hb2 with⟨b',hid,hp,hb',e,ho⟩|⟨j,b',c,hp,hb',hc,e,hρ⟩|⟨j,hge,hj,hc,hρ⟩
   ·rw[hρold id hid hp];exact hBold id b' b2 hid hp hb' (by rw[e] at hd2;exact hd2) e ho (hdisAll id b2 hb2)
   ·rw[hρ,e];exact hBout j c hc (by rw[e] at hd2;exact hd2) _
   ·rw[hρ];exact hBout j b2 hc hd2 b2.g
  ·rcases hsplit id b hb with ⟨b1, hid, hp, hb1, e, hoo⟩ | ⟨j, b1, c, hp, hb1, hc, e, hρ⟩ | ⟨j, hge, hj, hc, hρ⟩ <;>
    rcases hsplit id' b' hb' with⟨b1',hid',hp',hb1',e',hoo'⟩|⟨j',b1',c',hp',hb1',hc',e',hρ'⟩|⟨j',hge',hj',hc',hρ'⟩
   ·rw[hρold id hid hp,hρold id' hid' hp'];have hbo:b1.own=true:=by
     rcases hoo with h|⟨_,_,h⟩
     ·rw[<- h];exact ho
     ·rw[h] at ho;cases ho
    exact hH.apart id id' b1 b1' hb1 hb1' (by rw[e] at hd;exact hd) (by rw[e'] at hd';exact hd') hbo hne
   ·have hbo : b1.own = true := by
     rcases hoo with h|⟨_,_,h⟩
     ·rw[<- h];exact ho
     ·rw[h] at ho;cases ho
    rw[hρold id hid hp,hρ'];exact (hcallee j' c' hc' (by rw[e'] at hd';exact hd') id b1 hb1 (by rw[e] at hd;exact hd) hp (.inl hbo)).symm
   ·have hbo : b1.own = true := by
     rcases hoo with h|⟨_,_,h⟩
     ·rw[<- h];exact ho
     ·rw[h] at ho;cases ho
    rw[hρold id hid hp,hρ'];exact (hcallee j' b' hc' hd' id b1 hb1 (by rw[e] at hd;exact hd) hp (.inl hbo)).symm
   ·rw[hρ,hρold id' hid' hp'];exact hcallee j c hc (by rw[e] at hd;exact hd) id' b1' hb1' (by rw[e'] at hd';exact hd') hp' (.inr (by rw[e] at ho;exact ho))
   ·rw[hρ,hρ'];refine h1.apart j j' c c' hc hc' (by rw[e] at hd;exact hd) (by rw[e'] at hd';exact hd') (by rw[e] at ho;exact ho) λh=>hne ?_
    subst h;exact hS.posInj id id' j hp hp'
   ·rw[hρ,hρ'];refine h1.apart j j' c b' hc hc' (by rw[e] at hd;exact hd) hd' (by rw[e] at ho;exact ho) λh=>?_
    have:=(hS.posLt id j hp).2
    omega
   ·rw[hρ,hρold id' hid' hp'];exact hcallee j b hc hd id' b1' hb1' (by rw[e'] at hd';exact hd') hp' (.inr ho)
   ·rw[hρ,hρ'];refine h1.apart j j' b c' hc hc' hd (by rw[e'] at hd';exact hd') ho λh=>?_
    have:=(hS.posLt id' j' hp').2
    omega
   ·rw[hρ,hρ'];exact h1.apart j j' b b' hc hc' hd hd' ho λh=>hne (by omega)
end
section
variable{W:Nat->Prop}{ρ ρ1:Rho}{H H2 blks out:List c7}{F F1:Fz}{w w1:World}
theorem Mb8:∀(l:List Nat) (k id j:Nat),Bb3 id k l=some j->k<=j/\l[j-k]?=some id
 |[],k,id,j,h=>by simp[Bb3] at h
 |x::l,k,id,j,h=>by
  simp only[Bb3] at h;cases hb:Nat.beq x id with
  |true =>
   simp_all
  |false =>
   simp only[hb] at h;obtain⟨h1,h2⟩:=Mb8 l (k+1) id j h
   grind
theorem Mb9:∀(l:List Nat) (k id:Nat),Bb3 id k l=none->id∉l
 |[],k,id,_=>by simp
 |x::l,k,id,h=>by
  simp only[Bb3] at h;cases hb:Nat.beq x id with
  |true=>simp[hb] at h
  |false =>
   simp only[hb] at h;have h1:=Mb9 l (k+1) id h
   have:=Qbl hb
   grind
def Yb8(roots:List Nat)(id:Nat):Option Nat:=Bb3 id 0 roots
theorem Sa5{roots:List Nat}{id j:Nat}(h:Yb8 roots id=some j):roots[j]?=some id:=by
 have:=(Mb8 roots 0 id j h).2
 simpa using this
theorem Hd4{roots:List Nat}{id j:Nat}(hn:roots.Nodup)(h:roots[j]?=some id):Yb8 roots id=some j:=by
 cases hp:Yb8 roots id with
 |none=>exact absurd (Qbc h) (Mb9 roots 0 id hp)
 |some j' =>
  have h':=Sa5 hp;have hj:=(Qab.1 h);have hj':=(Qab.1 h');obtain⟨a1,a2⟩:=hj;obtain⟨b1,b2⟩:=hj'
  have:=(List.getElem_inj hn).1 (b2.trans a2.symm)
  rw[this]
theorem Hd5{roots r:List Nat}{id j:Nat}(hn:roots.Nodup)(h:Sa4 roots id=(j,r)):r[j]?=some id/\r.Nodup/\(∀(i:Nat) y,roots[i]?=some y->r[i]?=some y)/\∀y∈r,y∈roots\/y=id:=by
 unfold Sa4 at h
 split at h
 ·rename_i j' hj;injection h with e1 e2;subst e1 e2;exact⟨Sa5 hj,hn,λ_ _ h=>h,λy hy=>.inl hy⟩
 ·rename_i hj;have hnm:=Mb9 roots 0 id hj;rw[z6,K6] at h
  grind
structure Rb4(H:List c7)(p:Pa8):Prop where
 nodup:p.roots.Nodup
 live:∀id∈p.roots,∃b,H[id]?=some b/\b.dead=false
 lent:∀id∈p.lent,∃b,H[id]?=some b/\b.dead=false
def Hb7(p q:Pa8):Prop:=(∀(i:Nat) y,p.roots[i]?=some y->q.roots[i]?=some y)/\∀y∈p.lent,y∈q.lent
theorem Hb7.refl(p:Pa8):Hb7 p p:=⟨λ_ _ h=>h,λ_ h=>h⟩
theorem Hb7.trans{p q r:Pa8}(h:Hb7 p q)(k:Hb7 q r):Hb7 p r:=⟨λi y hy=>k.1 i y (h.1 i y hy),λy hy=>k.2 y (h.2 y hy)⟩
inductive PrC (H:List c7) (p:Pa8):b7->b7->Prop
 |v (u:Value):PrC H p (.v u) (.v u)
 |ptr (id i c g j:Nat) (b:c7) (hb:blkAt H id g=some b) (hj:p.roots[j]?=some id):PrC H p (.ptr id i c g) (.ptr j i c 0)
 |tree (es n:Nat) (get:Nat->List b7):PrC H p (.tree es n get) (.tree es n get)
 |tptr (cs:List b7):PrC H p (.tptr cs) (.tptr cs)
 |lend (id off n g:Nat) (b:c7) (hb:blkAt H id g=some b) (hl:id∈p.lent):PrC H p (.sl id off n g) (oc4 b off n)
 |fn (f:FuncId):PrC H p (.fn f []) (.fn f [])
inductive PrV (H:List c7) (p:Pa8):b7->b7->Prop
 |cell {x z:b7} (h:PrC H p x z):PrV H p x z
 |agg (cs ds:List b7) (hl:ds.length=cs.length) (h:∀(i:Nat) x z,cs[i]?=some x->ds[i]?=some z->PrC H p x z):PrV H p (.agg cs) (.agg ds)
 |fn (f:FuncId) (cs ds:List b7) (hl:ds.length=cs.length) (h:∀(i:Nat) x z,cs[i]?=some x->ds[i]?=some z->PrC H p x z):PrV H p (.fn f cs) (.fn f ds)
 |sl (id n g j:Nat) (b:c7) (hb:blkAt H id g=some b) (hj:p.roots[j]?=some id):PrV H p (.sl id 0 n g) (.sl j 0 n 0)
theorem PrC.le{p q:Pa8}{x z:b7}(h:PrC H p x z)(hle:Hb7 p q):PrC H q x z:=by
 cases h with
 |v u=>exact .v u
 |ptr id i c g j b hb hj=>exact .ptr id i c g j b hb (hle.1 _ _ hj)
 |tree es n get=>exact .tree es n get
 |tptr cs=>exact .tptr cs
 |lend id off n g b hb hl=>exact .lend id off n g b hb (hle.2 _ hl)
 |fn f=>exact .fn f
theorem PrV.le{p q:Pa8}{x z:b7}(h:PrV H p x z)(hle:Hb7 p q):PrV H q x z:=by
 cases h with
 |cell h=>exact .cell (h.le hle)
 |agg cs ds hl h=>exact .agg cs ds hl λi x z hx hz=>(h i x z hx hz).le hle
 |fn f cs ds hl h=>exact .fn f cs ds hl λi x z hx hz=>(h i x z hx hz).le hle
 |sl id n g j b hb hj=>exact .sl id n g j b hb (hle.1 _ _ hj)
theorem nd8{p q:Pa8}{x z:b7}(hp:Rb4 H p)(h:capArg H p x=some (z,q)):Rb4 H q/\Hb7 p q/\PrC H q x z:=by
 unfold capArg at h
 split at h
 ·injection h with h;injection h with e1 e2;subst e1 e2;exact⟨hp,.refl p,.v _⟩
 ·rename_i id i c g;cases hb:blkAt H id g with
  |none=>simp[hb] at h
  |some b =>
  obtain⟨hb1,hb2,hb3⟩:=H4 hb;simp only[hb] at h;cases hi:Sa4 p.roots id with
  |mk j r =>
  simp only[hi] at h;injection h with h;injection h with e1 e2;subst e1 e2
  obtain⟨h1,h2,h3,h4⟩:=Hd5 hp.nodup hi;refine⟨⟨h2,λy hy=>?_,hp.lent⟩,⟨h3,λy hy=>hy⟩,.ptr id i c g j b hb h1⟩
  rcases h4 y hy with h|rfl
  ·exact hp.live y h
  ·exact⟨b,hb1,hb2⟩
 ·injection h with h;injection h with e1 e2;subst e1 e2;exact⟨hp,.refl p,.tree _ _ _⟩
 ·injection h with h;injection h with e1 e2;subst e1 e2;exact⟨hp,.refl p,.tptr _⟩
 ·rename_i id off n g;cases hb:blkAt H id g with
  |none=>simp[hb] at h
  |some b =>
  obtain⟨hb1,hb2,hb3⟩:=H4 hb;simp only[hb] at h;injection h with h;injection h with e1 e2;subst e1 e2
  refine⟨⟨hp.nodup,hp.live,λy hy=>?_⟩,⟨λ_ _ h=>h,λy hy=>by simp[hy]⟩,.lend id off n g b hb (by simp)⟩
  rcases Qbh.1 hy with rfl|hy
  ·exact⟨b,hb1,hb2⟩
  ·exact hp.lent y hy
 ·injection h with h;injection h with e1 e2;subst e1 e2;exact⟨hp,.refl p,.fn _⟩
 ·cases h
theorem Xc9:∀{xs zs:List b7} {p q:Pa8},Rb4 H p->capArgs H p xs=some (zs,q)->Rb4 H q/\Hb7 p q/\zs.length=xs.length/\∀(i:Nat) x z,xs[i]?=some x->zs[i]?=some z->PrC H q x z
 |[],zs,p,q,hp,h=>by
  simp only[capArgs] at h;injection h with h;injection h with e1 e2;subst e1 e2
  exact⟨hp,.refl p,rfl,λi x z hx=>by simp at hx⟩
 |x::xs,zs,p,q,hp,h=>by
  simp only[capArgs] at h;cases h1:capArg H p x with
  |none=>simp[h1] at h
  |some yq =>
  obtain⟨y,p1⟩:=yq;simp only[h1] at h;cases h2:capArgs H p1 xs with
  |none=>simp[h2] at h
  |some lq =>
  obtain⟨l,p2⟩:=lq;simp only[h2] at h;injection h with h;injection h with e1 e2;subst e1 e2
  obtain⟨a1,a2,a3⟩:=nd8 hp h1;obtain⟨b1,b2,b3,b4⟩:=Xc9 a1 h2;refine⟨b1,a2.trans b2,by simp[b3],λi u z hu hz=>?_⟩
  cases i with
  |zero=>simp at hu hz;subst hu hz;exact a3.le b2
  |succ i=>exact b4 i u z (by simpa using hu) (by simpa using hz)
theorem Pe7{p q:Pa8}{own:Bool}{x z:b7}(hp:Rb4 H p)(h:prepArg H own p x=some (z,q)):Rb4 H q/\Hb7 p q/\PrV H q x z:=by
 unfold prepArg at h
 split at h
 ·injection h with h;injection h with e1 e2;subst e1 e2;exact⟨hp,.refl p,.cell (.v _)⟩
 ·rename_i id off n g
  split at h
  ·cases hb:blkAt H id g with
   |none=>simp[hb] at h
   |some b =>
   obtain⟨hb1,hb2,hb3⟩:=H4 hb;simp only[hb] at h;cases hc:Nat.beq off 0 with
   |false=>simp[hc] at h
   |true =>
   simp only[hc] at h;have h0:=Qad hc;subst h0;cases hi:Sa4 p.roots id with
   |mk j r =>
   simp only[hi] at h;injection h with h;injection h with e1 e2;subst e1 e2
   obtain⟨h1,h2,h3,h4⟩:=Hd5 hp.nodup hi;refine⟨⟨h2,λy hy=>?_,hp.lent⟩,⟨h3,λy hy=>hy⟩,.sl id n g j b hb h1⟩
   rcases h4 y hy with h|rfl
   ·exact hp.live y h
   ·exact⟨b,hb1,hb2⟩
  ·obtain⟨a1,a2,a3⟩:=nd8 hp h;exact⟨a1,a2,.cell a3⟩
 ·cases h1:capArgs H p _ with
  |none=>rw[h1] at h;cases h
  |some lq =>
  obtain⟨l,p2⟩:=lq;rw[h1] at h;injection h with h;injection h with e1 e2;subst e1 e2
  obtain⟨b1,b2,b3,b4⟩:=Xc9 hp h1;exact⟨b1,b2,.agg _ _ b3 b4⟩
 ·cases h1:capArgs H p _ with
  |none=>rw[h1] at h;cases h
  |some lq =>
  obtain⟨l,p2⟩:=lq;rw[h1] at h;injection h with h;injection h with e1 e2;subst e1 e2
  obtain⟨b1,b2,b3,b4⟩:=Xc9 hp h1;exact⟨b1,b2,.fn _ _ _ b3 b4⟩
 ·obtain⟨a1,a2,a3⟩:=nd8 hp h;exact⟨a1,a2,.cell a3⟩
theorem Dc0{own:Nat->Bool}:∀{xs zs:List b7} {p q:Pa8} {k:Nat},Rb4 H p->prepArgs H own p k xs=some (zs,q)->Rb4 H q/\Hb7 p q/\zs.length=xs.length/\∀(i:Nat) x z,xs[i]?=some x->zs[i]?=some z->PrV H q x z
 |[],zs,p,q,k,hp,h=>by
  simp only[prepArgs] at h;injection h with h;injection h with e1 e2;subst e1 e2
  exact⟨hp,.refl p,rfl,λi x z hx=>by simp at hx⟩
 |x::xs,zs,p,q,k,hp,h=>by
  simp only[prepArgs] at h;cases h1:prepArg H (own k) p x with
  |none=>simp[h1] at h
  |some yq =>
  obtain⟨y,p1⟩:=yq;simp only[h1] at h;cases h2:prepArgs H own p1 (k+1) xs with
  |none=>simp[h2] at h
  |some lq =>
  obtain⟨l,p2⟩:=lq;simp only[h2] at h;injection h with h;injection h with e1 e2;subst e1 e2
  obtain⟨a1,a2,a3⟩:=Pe7 hp h1;obtain⟨b1,b2,b3,b4⟩:=Dc0 a1 h2;refine⟨b1,a2.trans b2,by simp[b3],λi u z hu hz=>?_⟩
  cases i with
  |zero=>simp at hu hz;subst hu hz;exact a3.le b2
  |succ i=>exact b4 i u z (by simpa using hu) (by simpa using hz)
theorem Pb7:∀{roots:List Nat} {blks:List c7},blksAt H roots=some blks->blks.length=roots.length/\∀(j:Nat) id,roots[j]?=some id->∃b,H[id]?=some b/\blks[j]?=some { b with g:=0 }
 |[],blks,h=>by
  simp only[blksAt] at h
  simp_all
 |id::roots,blks,h=>by
  simp only[blksAt,F7] at h;cases hb:H[id]? with
  |none=>simp[hb] at h
  |some b =>
  simp only[hb] at h;cases hr:blksAt H roots with
  |none=>simp[hr] at h
  |some l =>
  simp only[hr] at h;injection h with h;subst h
  obtain⟨h1,h2⟩:=Pb7 hr
  grind
theorem PrC.rel{p:Pa8}{x z:b7}{x':Value}(hH:J0 W ρ H F w)(hbl:blksAt H p.roots=some blks)(inv:Nat->Nat)(hinv:∀(j:Nat) id,p.roots[j]?=some id->inv j=id)
  (h:PrC H p x z) (hx:ea9 ρ H F w x x'):ea9 (λj=>ρ (inv j)) blks (de0 ρ H F (·∈p.lent)) w z x':=by
 obtain⟨hl,hat⟩:=Pb7 hbl;have hmore:∀b o,F b o->de0 ρ H F (·∈p.lent) b o:=λb o h=>.inl h
 cases h with
 |v u =>
  have:=fa0 (.val (.cell hx))
  subst this;exact .v _
 |ptr id i c g j b hb hj =>
  obtain⟨ad,b',e,hb1,hd1,hg1,hh⟩:=Za9 (.val (.cell hx));obtain⟨hb2,hd2,hg2⟩:=H4 hb
  have:b'=b:=Qag (hb1.symm.trans hb2)
  subst this;obtain⟨b3,hb3,hb4⟩:=hat j id hj
  have:b3=b':=Qag (hb3.symm.trans hb1)
  subst this;rw[e];refine .ptr j i c 0 ad _ hb4 hd1 (Qbv _) λ_=>?_
  simp_all
 |tree es n get =>
  have ht:=Ea8 (.val (.cell hx));exact .mem (ht.adv hmore λ_ _ _=>rfl)
 |tptr cs =>
  obtain⟨ad,vs,e,hs,hF,hw,hr⟩:=jc0 (.val (.cell hx));rw[e];exact .tptr cs ad vs hs (λc hc=>hmore _ _ (hF c hc)) hw λc hc=>(hr c hc).adv hmore λ_ _ _=>rfl
 |lend id off n g b hb hl =>
  obtain⟨hb2,hd2,hg2⟩:=H4 hb;refine .mem (nd6 hH hb (.val (.cell hx)) hmore λo ho=>?_)
  obtain⟨cc,t,fr,hB⟩:=hH.blk id b hb2 hd2;cases hown:b.own with
  |false=>exact .inl (hB.kept hown o ho)
  |true=>exact .inr ⟨id,b,hl,hb2,hown,rfl,by omega,by omega⟩
 |fn f =>
  cases hx with
  |mem h=>cases h with
   |fn _ _ vs _ e hl =>
    have:vs=#[]:=by simpa using hl.symm
    rw[e,this,Pb6];exact .mem (.fn0 f)
theorem PrV.rel{p:Pa8}{x z:b7}{x':Value}(hH:J0 W ρ H F w)(hbl:blksAt H p.roots=some blks)(inv:Nat->Nat)(hinv:∀(j:Nat) id,p.roots[j]?=some id->inv j=id)
  (h:PrV H p x z) (hx:K8 ρ H F w x x'):K8 (λj=>ρ (inv j)) blks (de0 ρ H F (·∈p.lent)) w z x':=by
 obtain⟨hl,hat⟩:=Pb7 hbl;cases h with
 |cell h =>
  have hc:ea9 ρ H F w x x'\/∃f,x=.fn f []/\z=.fn f []:=by
   cases hx with
   |val hx=>cases hx with
    |cell hx=>exact .inl hx
    |agg=>cases h
    |fn f caps vs hl h'=>cases h;exact .inr ⟨_,rfl,rfl⟩
   |tup=>cases h
  rcases hc with hc|⟨f,rfl,rfl⟩
  ·exact .val (.cell (h.rel hH hbl inv hinv hc))
  ·obtain⟨vs,e,hl,_⟩:=dc3 hx
   have:vs=#[]:=by simpa using hl.symm
   rw[e,this,Pb6];exact .val (.cell (.mem (.fn0 f)))
 |agg cs ds hl2 h =>
  obtain⟨vs,e,hl3,h3⟩:=Ja5 hx;rw[e];exact .val (.agg ds vs (hl2.trans hl3) λi y y' hy hy'=>by
   have hi:i<cs.length:=hl2 ▸ (Qab.1 hy).1;exact (h i _ y (Qaa hi) hy).rel hH hbl inv hinv (h3 i _ y' (Qaa hi) hy'))
 |fn f cs ds hl2 h =>
  obtain⟨vs,e,hl3,h3⟩:=dc3 hx;rw[e];exact .val (.fn f ds vs (hl2.trans hl3) λi y y' hy hy'=>by
   have hi:i<cs.length:=hl2 ▸ (Qab.1 hy).1;exact (h i _ y (Qaa hi) hy).rel hH hbl inv hinv (h3 i _ y' (Qaa hi) hy'))
 |sl id n g j b hb hj =>
  obtain⟨ad,cap,b',e,hb1,hd1,hg1,hn1,hs1,hm1,hh⟩:=lb3 hx;obtain⟨hb2,hd2,hg2⟩:=H4 hb
  have:b'=b:=Qag (hb1.symm.trans hb2)
  subst this;obtain⟨b3,hb3,hb4⟩:=hat j id hj
  have:b3=b':=Qag (hb3.symm.trans hb1)
  subst this;rw[e];refine .val (.cell (.sl j 0 n 0 ad cap _ hb4 hd1 (Qbv _) hn1 hs1 hm1 λ_=>?_))
  simp_all
end
section
variable{W:Nat->Prop}{ρ ρ1:Rho}{H H2 blks out:List c7}{F F1:Fz}{w w1:World}
theorem Ae3(H:List c7)(id:Nat)(f:c7->c7)(b:c7)(hb:H[id]?=some b):modAt H id f=H.set id (f b):=by
 simp[modAt,F7,hb,H6]
theorem de1(H:List c7)(id:Nat)(f:c7->c7):(modAt H id f).length=H.length:=by
 unfold modAt;split
 ·rw[H6];simp
 ·rfl
theorem Hd6:∀{roots:List Nat} {H out H2:List c7},roots.Nodup->(∀id∈roots,id<H.length)->putBack H roots out=some H2 ->
  roots.length<=out.length/\H2.length=H.length+(out.length-roots.length) /\
  (∀(j:Nat) id,roots[j]?=some id->∃b c,H[id]?=some b/\out[j]?=some c/\H2[id]?=some { c with g:=b.g+c.g }) /\
  (∀id,id<H.length->id∉roots->H2[id]?=H[id]?)/\∀i,H2[H.length+i]?=out[roots.length+i]?
 |[],H,out,H2,_,_,h=>by
  have h2:H2=H++out:=by
   cases out with
   |nil=>simp[putBack] at h;simp[h]
   |cons c out=>simp[putBack,K6] at h;exact h.symm
  grind
 |id::roots,H,[],H2,_,_,h=>by simp[putBack] at h
 |id::roots,H,c::out,H2,hn,hlt,h=>by
  simp only[putBack] at h;have hid:=hlt id (by simp)
  have hb:=Qaa hid;rw[Ae3 H id _ _ hb] at h;obtain⟨hn1,hn2⟩:=List.nodup_cons.1 hn;obtain⟨h1,h2,h3,h4,h5⟩:=Hd6 hn2 (λid' h'=>by simp;exact hlt id' (by simp[h'])) h
  simp only[List.length_set] at h2 h4 h5;refine⟨by simp;omega,by simp only[List.length_cons];omega,λj id' hj=>?_,λid' hid' hni=>?_,λi=>?_⟩
  ·cases j with
   |zero =>
    simp at hj
    subst hj;refine⟨_,c,hb,rfl,?_⟩;rw[h4 id hid hn1,Qbx hid]
   |succ j =>
    obtain⟨b',c',g1,g2,g3⟩:=h3 j id' (by simpa using hj)
    have hne:id≠id':=λe=>by subst e;exact hn1 (Qbc (by simpa using hj))
    rw[Qah hne] at g1;exact⟨b',c',g1,by simpa using g2,g3⟩
  ·have hne:id≠id':=λe=>hni (by simp[e])
   rw[h4 id' hid' (λh=>hni (by simp[h])),Qah hne]
  ·rw[h5 i];simp only[List.length_cons];rw[show roots.length+1+i=(roots.length+i)+1 by omega]
   simp
theorem Yb9(id:Nat)(lent:List Nat)(held:Bool)(H:List c7):settle (id::lent) held H=if held then disown (settle lent held H) id else settle lent held H:=by
 have e:settle (id::lent) held H=modAt (settle lent held H) id λb=>{ b with own:=Bool.rec b.own false held }:=rfl
 rw[e];cases held with
 |true=>rfl
 |false =>
  show modAt (settle lent false H) id (λb=>b)=settle lent false H
  unfold modAt;rw[F7];cases h:(settle lent false H)[id]? with
  |none=>rfl
  |some b =>
   show setAt (settle lent false H) id b=_;rw[H6];apply List.ext_getElem?
   grind
theorem de2(held:Bool)(H:List c7):∀(lent:List Nat),(settle lent held H).length=H.length /\
  ∀(id:Nat) b2,(settle lent held H)[id]?=some b2->∃b,H[id]?=some b/\b2={ b with own:=b2.own }/\(b2.own=b.own\/(held=true/\id∈lent/\b2.own=false))/\(held=true->id∈lent->b2.own=false)
 |[]=>⟨rfl,λid b2 h=>⟨b2,h,rfl,.inl rfl,λ_ h=>by simp at h⟩⟩
 |l::lent=>by
  obtain⟨h1,h2⟩:=de2 held H lent;rw[Yb9];cases held with
  |false =>
   simp_all
  |true =>
   simp only[if_true];refine⟨by simp[disown,de1,h1],λid b2 hb=>?_⟩
   by_cases hl:l=id
   ·subst hl;have hlt:l<(settle lent true H).length:=by
     have:=(Qab.1 hb).1
     simpa [disown,de1] using this
    have hg:=Qaa hlt;obtain⟨b,g1,g2,g3,g4⟩:=h2 l _ hg;unfold disown at hb;rw[Ae3 _ l _ _ hg,Qbx hlt] at hb
    grind
   ·have hb' : (settle lent true H)[id]? = some b2 := by
     unfold disown modAt at hb
     split at hb
     ·rwa [H6,Qah hl] at hb
     ·exact hb
    grind
theorem nd9:∀{l r:List Nat},Qb7 l r=true->∀x∈l,x∉r
 |[],_,_,x,hx=>by simp at hx
 |y::l,r,h,x,hx=>by
  have h':(Bool.rec (Qb7 l r) false (Hb1 y r):Bool)=true:=h;cases hm:Hb1 y r with
  |true=>rw[hm] at h';cases h'
  |false =>
   rw[hm] at h'
   rcases Qbh.1 hx with rfl|hx
   ·rw[Kf4] at hm;simpa using hm
   ·exact nd9 h' x hx
theorem Ae4{p:Pa8}{held:Bool}(hp:Rb4 H p)(hbl:blksAt H p.roots=some blks)(hap:Qb7 p.lent p.roots=true)(hpb:putBack H p.roots out=some H2) :
  Ae1 H blks out (settle p.lent held H2) (Yb8 p.roots) (·∈p.lent) (held=true):=by
 obtain⟨hl,hat⟩:=Pb7 hbl;have hlt:∀id∈p.roots,id<H.length:=λid hid=>by
  obtain⟨b,hb,_⟩:=hp.live id hid;exact (Qab.1 hb).1
 obtain⟨g1,g2,g3,g4,g5⟩:=Hd6 hp.nodup hlt hpb;obtain⟨s1,s2⟩:=de2 held H2 p.lent;have hnone:∀id,Yb8 p.roots id=none->id∉p.roots:=λid h=>Mb9 _ _ _ h
 have hnot:∀id,id∈p.lent->Yb8 p.roots id=none:=λid hid=>by
  cases h:Yb8 p.roots id with
  |none=>rfl
  |some j=>exact absurd (Qbc (Sa5 h)) (nd9 hap id hid)
 refine⟨λid j h=>?_,λid id' j h h'=>?_,λj hj=>?_,λid j b h hb=>?_,λid h=>⟨hnot id h,hp.lent id h⟩,by omega,λid b2 hid hn hb2=>?_,λid b2 hh hm hb2=>?_,λid j b2 h hb2=>?_,λid b2 hge hb2=>?_,by rw[s1,g2,hl]⟩
 ·have h1:=Sa5 h;exact⟨hlt id (Qbc h1),by rw[hl];exact (Qab.1 h1).1⟩
 ·have h1:=Sa5 h;have h2:=Sa5 h';exact Qag (h1.symm.trans h2)
 ·rw[hl] at hj;exact⟨p.roots[j],Hd4 hp.nodup (Qaa hj)⟩
 ·have h1:=Sa5 h;obtain⟨b',hb',hb2⟩:=hat j id h1
  have:b'=b:=Qag (hb'.symm.trans hb)
  subst this;obtain⟨b3,hb3,hd3⟩:=hp.live id (Qbc h1)
  have:b3=b':=Qag (hb3.symm.trans hb)
  subst this;exact⟨hb2,hd3⟩
 ·obtain⟨b,k1,k2,k3,_⟩:=s2 id b2 hb2;rw[g4 id hid (hnone id hn)] at k1;refine⟨b,k1,k2,?_⟩
  rcases k3 with k3|⟨a1,a2,a3⟩
  ·exact .inl k3
  ·exact .inr ⟨a1,a2,a3⟩
 ·obtain⟨b,k1,k2,k3,k4⟩:=s2 id b2 hb2;exact k4 hh hm
 ·have h1:=Sa5 h;obtain⟨b,c,k1,k2,k3⟩:=g3 j id h1;obtain⟨b',m1,m2,m3,_⟩:=s2 id b2 hb2
  have:b'={ c with g:=b.g+c.g }:=Qag (m1.symm.trans k3)
  subst this;refine⟨b,c,k1,k2,?_⟩
  rcases m3 with m3|⟨_,m4,_⟩
  ·rw[m2,m3]
  ·exact absurd (hnot id m4) (by rw[h];simp)
 ·obtain⟨b',m1,m2,m3,_⟩:=s2 id b2 hb2;have e:id=H.length+(id-H.length):=by omega
  rw[e,g5] at m1;rw[hl]
  rcases m3 with m3|⟨_,m4,_⟩
  ·have:b2=b':=by rw[m2,m3]
   rw[this];exact m1
  ·obtain⟨b3,hb3,_⟩:=hp.lent id m4
   have:=(Qab.1 hb3).1
   omega
def me2:b7->Bool
 |.agg _ | .tup _ | .fn _ _=>false
 |_=>true
theorem de3{p:Pa8}{held:Bool}(hp:Rb4 H p)(hbl:blksAt H p.roots=some blks)(hap:Qb7 p.lent p.roots=true)(hpb:putBack H p.roots out=some H2){j g id g':Nat}{c:c7}(hc:out[j]?=some c)
  (hid:backId H p.roots j g=(id,g')):∃b2,(settle p.lent held H2)[id]?=some b2/\(∃n,b2={ c with g:=n+c.g }/\g'=n+g)/\Da7 ρ ρ1 H.length blks.length (Yb8 p.roots) id=ρ1 j:=by
 have hS:=Ae4 (held:=held) hp hbl hap hpb;obtain⟨hl,hat⟩:=Pb7 hbl;unfold backId at hid;rw[F7] at hid;cases hr:p.roots[j]? with
 |some id0 =>
  obtain⟨b,hb,_⟩:=hat j id0 hr;simp only[hr,F7,hb] at hid;injection hid with e1 e2;subst e1 e2;have hpos:=Hd4 hp.nodup hr;have hlt2:id0<(settle p.lent held H2).length:=by have:=hS.len;have:=(hS.posLt id0 j hpos).1;omega
  obtain⟨b',c',k1,k2,k3⟩:=hS.root id0 j _ hpos (Qaa hlt2)
  have:b'=b:=Qag (k1.symm.trans hb)
  subst this
  have:c'=c:=Qag (k2.symm.trans hc)
  subst this;exact⟨_,Qaa hlt2,⟨b'.g,k3,rfl⟩,by simp[Da7,hpos]⟩
 |none =>
  simp only[hr,z6] at hid;injection hid with e1 e2;subst e1 e2;have hjl:=(Qab.1 hc).1;have hjge:p.roots.length<=j:=by
   simp_all
  have hlt2:H.length+(j-p.roots.length)<(settle p.lent held H2).length:=by have:=hS.len;omega
  have hn:=hS.new _ _ (by omega) (Qaa hlt2)
  have e:blks.length+(H.length+(j-p.roots.length)-H.length)=j:=by omega
  rw[e] at hn;have hbc:=Qag (hn.symm.trans hc);refine⟨_,Qaa hlt2,⟨0,by rw[hbc];simp,by simp⟩,?_⟩
  have hnn:Yb8 p.roots (H.length+(j-p.roots.length))=none:=by
   cases h:Yb8 p.roots (H.length+(j-p.roots.length)) with
   |none=>rfl
   |some j'=>have:=(hS.posLt _ _ h).1;omega
  have hnl:¬ (H.length+(j-p.roots.length)<H.length):=by omega
  simp only[Da7,hnn,if_neg hnl];rw[e]
section
variable{p:Pa8}{held:Bool}(hp:Rb4 H p)(hbl:blksAt H p.roots=some blks)(hap:Qb7 p.lent p.roots=true)(hpb:putBack H p.roots out=some H2)
include hp hbl hap hpb
theorem Oc7{x:b7}{x':Value}(hx:ea9 ρ1 out F1 w1 x x')(hh:held=true\/lb1 x=false) :
  ea9 (Da7 ρ ρ1 H.length blks.length (Yb8 p.roots)) (settle p.lent held H2) (Uc2 ρ H F F1 (·∈p.lent) (held=true)) w1 (backC H p.roots x) x':=by
 have hm:∀{y y'},fa8 F1 w1 y y'->(held=true\/lb1 y=false)->fa8 (Uc2 ρ H F F1 (·∈p.lent) (held=true)) w1 y y':=λ{y y'} h hh=>by
  rcases hh with hh|hh
  ·exact h.adv (λb o h=>⟨h,.inl hh⟩) (λ_ _ _=>rfl)
  ·exact h.bare hh
 cases hx with
 |mem h =>
  cases h with
  |v u h1=>exact .v _
  |fn f caps vs _ e hl hb h=>exact .mem (hm (.fn f caps vs _ e hl hb h) hh)
  |tree es n get ad cap cs hs hcap hes hF hw hr =>
   have hh':held=true:=hh.resolve_right (by simp[lb1])
   exact .mem (hm (.tree es n get ad cap cs hs hcap hes hF hw hr) (.inl hh'))
  |nil es get=>exact .mem (.nil es get)
 |v u=>exact .v _
 |ptr id i c g ad b hb hd hg h =>
  simp only[backC];cases hid:backId H p.roots id g with
  |mk id2 g2 =>
  obtain⟨b2,k1,⟨n,k2,k3⟩,k4⟩:=de3 (ρ:=ρ) (ρ1:=ρ1) (held:=held) hp hbl hap hpb hb hid;refine .ptr id2 i c g2 ad b2 k1 (by rw[k2];exact hd) (by rw[k2,k3];simp;exact hg) λhge=>?_
  simp_all
 |sl id off n g ad cap b hb hd hg hn hs hcm h =>
  simp only[backC];cases hid:backId H p.roots id g with
  |mk id2 g2 =>
  obtain⟨b2,k1,⟨m,k2,k3⟩,k4⟩:=de3 (ρ:=ρ) (ρ1:=ρ1) (held:=held) hp hbl hap hpb hb hid;refine .sl id2 off n g2 ad cap b2 k1 (by rw[k2];exact hd) (by rw[k2,k3];simp;exact hg) hn hs hcm λhge=>?_
  simp_all
 |tptr cs ad vs hs hF hw hr =>
  have hh':held=true:=hh.resolve_right (by simp[lb1])
  exact .tptr cs ad vs hs (λc hc=>⟨hF c hc,.inl hh'⟩) hw λc hc=>hm (hr c hc) (.inl hh')
 |unk x'=>exact .unk _
theorem tf2{x:b7}{x':Value}(hx:ra2 ρ1 out F1 w1 x x')(hh:held=true\/Za7 x=false) :
  ra2 (Da7 ρ ρ1 H.length blks.length (Yb8 p.roots)) (settle p.lent held H2) (Uc2 ρ H F F1 (·∈p.lent) (held=true)) w1 (backVal1 H p.roots x) x':=by
 have hbar:∀{y:b7},me2 y=true->backVal1 H p.roots y=backC H p.roots y/\Za7 y=lb1 y:=λ{y} h=>by
  cases y with
  |agg=>cases h
  |tup=>cases h
  |fn=>cases h
  |_=>exact⟨rfl,rfl⟩
 cases hx with
 |cell h =>
  by_cases hb:me2 x=true
  ·obtain⟨e1,e2⟩:=hbar hb;rw[e1];exact .cell (Oc7 hp hbl hap hpb h (e2 ▸ hh))
  ·cases h with
   |mem h=>cases h with
    |fn f caps vs _ e hl hb2 h =>
     have e2:backVal1 H p.roots (.fn f caps)=backC H p.roots (.fn f caps):=by
      show b7.fn f (s5 (backC H p.roots) caps)=.fn f caps;rw[s8];congr 1;refine (List.map_congr_left λy hy=>?_).trans (List.map_id _)
      have:=Cc7 hb2 y hy
      cases y with
      |v=>rfl
      |tree=>rfl
      |_=>cases this
     rw[e2];exact .cell (Oc7 hp hbl hap hpb (.mem (.fn f caps vs _ e hl hb2 h)) hh)
    |_=>exact absurd rfl hb
   |_=>exact absurd rfl hb
 |agg cs vs hl h =>
  show ra2 _ _ _ _ (.agg (s5 (backC H p.roots) cs)) _;rw[s8];refine .agg _ vs (by simpa using hl) λi x x' hx hx'=>?_
  simp only[Qbe,Qbm] at hx;obtain⟨y,hy,rfl⟩:=hx;refine Oc7 hp hbl hap hpb (h i y x' hy hx') (hh.imp id λhh=>?_)
  have hh':cs.any lb1=false:=hh
  grind
 |fn f caps vs hl h =>
  show ra2 _ _ _ _ (.fn f (s5 (backC H p.roots) caps)) _;rw[s8];refine .fn f _ vs (by simpa using hl) λi x x' hx hx'=>?_
  simp only[Qbe,Qbm] at hx;obtain⟨y,hy,rfl⟩:=hx;have hc:=h i y x' hy hx';refine Oc7 hp hbl hap hpb hc (hh.imp id λhh=>?_)
  have hh':caps.any ke8=false:=hh;rw[Qbk] at hh'
  have:=hh' y (Qbc hy)
  cases y with
  |fn f l=>cases l with
   |nil=>rfl
   |cons=>exact absurd rfl this
  |tree=>exact absurd rfl this
  |tptr=>exact absurd rfl this
  |_=>rfl
theorem eg4{x:b7}{x':Value}(hx:K8 ρ1 out F1 w1 x x')(hh:held=true\/Za7 x=false) :
  K8 (Da7 ρ ρ1 H.length blks.length (Yb8 p.roots)) (settle p.lent held H2) (Uc2 ρ H F F1 (·∈p.lent) (held=true)) w1 (backVal H p.roots x) x':=by
 cases hx with
 |val h =>
  have e:backVal H p.roots x=backVal1 H p.roots x\/∃vs,x=.tup vs:=by
   cases x with
   |tup vs=>exact .inr ⟨vs,rfl⟩
   |_=>exact .inl rfl
  rcases e with e|⟨vs,rfl⟩
  ·rw[e];exact .val (tf2 hp hbl hap hpb h hh)
  ·cases h with
   |cell h=>cases h with
    |mem h=>cases h
 |tup xs vs hl h =>
  show K8 _ _ _ _ (.tup (s5 (backVal1 H p.roots) xs)) _;rw[s8];refine .tup _ vs (by simpa using hl) λi x x' hx hx'=>?_
  simp only[Qbe,Qbm] at hx;obtain⟨y,hy,rfl⟩:=hx;refine tf2 hp hbl hap hpb (h i y x' hy hx') (hh.imp id λhh=>?_)
  have hh':xs.any Ne9=false:=hh;rw[Qbk] at hh'
  have:=hh' y (Qbc hy)
  have e:Za7 y=Ne9 y\/∃l,y=.tup l:=by
   cases y with
   |tup l=>exact .inr ⟨l,rfl⟩
   |_=>exact .inl rfl
  rcases e with e|⟨l,rfl⟩
  ·rw[e];simpa using this
  ·cases h i _ x' hy hx' with
   |cell h=>cases h with
    |mem h=>cases h
end
end
section
variable{W:Nat->Prop}{ρ:Rho}{H H':List c7}{F:Fz}{w:World}{E:Env}
theorem Yc0(hH:J0 W ρ H F w)(hG:GOk E F w){f:FuncId}(hcall:l8 E.P E.G f (E.call f)){args:List b7}{args':List Value}{x:b7}(hlen:args.length=args'.length)
  (hargs:∀(i:Nat) x x',args[i]?=some x->args'[i]?=some x'->K8 ρ H F w x x') (he:(callA E f args H).run=some (x,H')) :
  Rb3 E.P f/\Calls E.P f args'.toArray w λe w'=>∃x',e=.returned x'/\U3 W ρ H F w x H' x' w':=by
 unfold callA at he;cases hpr:prepArgs H (E.own f) { roots:=[],lent:=[] } 0 args with
 |none=>rw[hpr] at he;cases he
 |some q =>
 obtain⟨args2,p⟩:=q;rw[hpr] at he
 simp only at he
 obtain⟨hp,_,hl2,hPr⟩:=Dc0 (H:=H) (p:={ roots:=[],lent:=[] }) ⟨List.nodup_nil,λid h=>by simp at h,λid h=>by simp at h⟩ hpr
 cases hbl:blksAt H p.roots with
 |none=>rw[hbl] at he;cases he
 |some blks =>
 cases hap:Qb7 p.lent p.roots with
 |false=>rw[hbl,hap] at he;cases he
 |true =>
 rw[hbl,hap] at he
 simp only at he
 obtain⟨⟨r,out⟩,hc,he⟩:=DT.run_bind_some he
 simp only at he
 cases hpb:putBack H p.roots out with
 |none=>rw[hpb] at he;cases he
 |some H2 =>
 rw[hpb] at he
 simp only at he
 generalize hheld:(Za7 r||out.any Cc0)=held at he
 have he':some (backVal H p.roots r,settle p.lent held H2)=some (x,H'):=he;injection he' with he';injection he' with e1 e2
 have hS:=Ae4 (held:=held) hp hbl hap hpb
 let inv:Nat->Nat:=λj=>(p.roots[j]?).getD 0
 have hinv1:∀(j:Nat) id,p.roots[j]?=some id->inv j=id:=λj id h=>by simp[inv,h]
 obtain⟨hbll,_⟩:=Pb7 hbl;have hinv:∀j,j<blks.length->Yb8 p.roots (inv j)=some j:=λj hj=>by
  rw[hbll] at hj;have h:=Qaa hj;rw[hinv1 j _ h];exact Hd4 hp.nodup h
 have hst:=hS.start hH inv hinv;have hargs2:∀(i:Nat) y y',args2[i]?=some y->args'[i]?=some y'->K8 (λj=>ρ (inv j)) blks (de0 ρ H F (·∈p.lent)) w y y':=λi y y' hy hy'=>by
  have hi:i<args.length:=hl2 ▸ (Qab.1 hy).1;have hx:=Qaa hi;exact (hPr i _ y hx hy).rel hH hbl inv hinv1 (hargs i _ y' hx hy')
 obtain⟨hca,hcalls⟩:=hcall args2 blks r out hc _ _ _ w args' hst (hl2.trans hlen) hargs2 λg c y hy=>by
  obtain⟨h1,h2,h3⟩:=hG g c y hy;exact⟨h1,.inl h2,h3⟩
 refine⟨hca,hcalls.mono λe w' ⟨r',her,ρ1,F1,hA,h1,hr⟩=>?_⟩
 have hheld':held=true\/(Za7 r=false/\∀b∈out,Cc0 b=false):=by
  grind
 have hbare:held=true\/∀(i:Nat) c (j:Nat) rr (k:Nat) y,out[i]?=some c->c.elems[j]?=some rr->rr[k]?=some y->lb1 y=false:=by
  rcases hheld' with h|⟨_,h⟩
  ·exact .inl h
  ·refine .inr λi c j rr k y hc hrr hy=>?_
   have h2:=h c (Qbc hc);have h3:=Qbk.1 h2 rr (Qbc hrr)
   grind
 obtain⟨j1,j2⟩:=hS.join hH inv hinv hA h1 hbare;subst her;refine⟨r',rfl,_,_,e2 ▸ j1,e2 ▸ j2,?_⟩;rw[<- e1,<- e2];exact eg4 hp hbl hap hpb hr (hheld'.imp id λh=>h.1)
variable{o:Oper}{ac:Act}{a:List b7}{x:b7}
theorem Nb0{P:Program}{f:FuncId}(hc:Rb3 P f)(args:Array Value):(callFunc f args).run P w=.ok (.enter f args) w:=by
 obtain⟨fn,h1,h2,h3⟩:=hc;have h2':¬ fn.body=none:=λhb=>by rw[hb] at h2;cases h2
 simp[callFunc,h1,if_neg h2',if_neg h3]
theorem Ze2(hA:Ia4 ρ H F w a ac.tmps)(hG:GOk E F w)(l:Array Operand):(s5 (c9 E a) (l.toList.map o7)).length=(l.map ac.eval).toList.length /\
  ∀(i:Nat) x x',(s5 (c9 E a) (l.toList.map o7))[i]?=some x->((l.map ac.eval).toList)[i]?=some x'->K8 ρ H F w x x':=by
 rw[s8];refine⟨by simp,λi x x' hx hx'=>?_⟩
 simp at hx hx'
 obtain⟨y,hy,rfl⟩:=hx;obtain⟨y',hy',rfl⟩:=hx'
 have:y'=y:=Qag (hy'.symm.trans hy)
 subst this;exact A9 hA hG y'
theorem Pe8(hA:Ia4 ρ H F w a ac.tmps)(hH:J0 W ρ H F w)(hG:GOk E F w)(hcalls:∀f,l8 E.P E.G f (E.call f)){c:Call}{f:FuncId}(ho:o.op=.call c)(hc:c.callee=.value (.func f))
  (he:(evalOp E a H (.call f (c.args.toList.map o7))).run=some (x,H')):s4 E.P o ac w (U3 W ρ H F w x H'):=by
 obtain⟨h1,h2⟩:=Ze2 (E:=E) hA hG c.args;obtain⟨k1,k2⟩:=Yc0 hH hG (hcalls f) h1 h2 he;refine .enter (f:=f) (args:=c.args.map ac.eval) ?_ (by
  rw[Array.toArray_toList] at k2;exact k2)
 have hr:=Nb0 (w:=w) k1 (c.args.map ac.eval);simp[execOp,ho,resolve,hc,Act.eval,Deferred.ofValue,invoke,hr]
theorem Ae5(hA:Ia4 ρ H F w a ac.tmps)(hH:J0 W ρ H F w)(hG:GOk E F w)(hcalls:∀f,l8 E.P E.G f (E.call f)){c:Call}{y:Operand}(ho:o.op=.call c)(hc:c.callee=.value y)
  (he:(evalOp E a H (.calld (o7 y) (c.args.toList.map o7))).run=some (x,H')):s4 E.P o ac w (U3 W ρ H F w x H'):=by
 obtain⟨h1,h2⟩:=Ze2 (E:=E) hA hG c.args;have hy:=A9 hA hG y;simp only[evalOp] at he
 revert he hy
 cases c9 E a (o7 y) with
 |fn f caps =>
  intro he hy
  simp only at he
  obtain⟨vs,e,hl,h3⟩:=dc3 hy;cases hb:Nat.ble bfB f with
  |true =>
   rw[hb] at he;cases caps with
   |nil=>cases he
   |cons c0 cs0 =>
   simp only at he
   have hv:vs≠#[]:=λe=>by rw[e] at hl;simp at hl
   rw[ye0 hb hv] at e;obtain⟨k1,k2⟩:=Yc0 (args':=.agg vs::(c.args.map ac.eval).toList) hH hG (hcalls (f-bfB)) (by simp only[List.length_cons];rw[h1]) (λi u u' hu hu'=>by
    cases i with
    |zero =>
     simp only[List.getElem?_cons_zero] at hu hu';cases hu;cases hu';exact .val (.agg _ vs hl h3)
    |succ i =>
     rw[List.getElem?_cons_succ] at hu hu';exact h2 i u u' hu hu') he
   refine .enter (f:=f-bfB) (args:=#[.agg vs]++c.args.map ac.eval) ?_ ?_
   ·have hr:=Nb0 (w:=w) k1 (#[.agg vs]++c.args.map ac.eval);simp[execOp,ho,resolve,hc,e,Deferred.ofValue,invoke,hr]
   ·have:(Value.agg vs::(c.args.map ac.eval).toList).toArray=#[.agg vs]++c.args.map ac.eval:=by simp
    rw[this] at k2;exact k2
  |false =>
  rw[hb] at he
  simp only at he
  rw[cd7 hb] at e;obtain⟨k1,k2⟩:=Yc0 (args':=(c.args.map ac.eval).toList++vs.toList) hH hG (hcalls f) (by rw[K6];simp only[List.length_append];rw[h1,hl];simp) (λi u u' hu hu'=>by
   rw[K6] at hu
   rcases Qaq i (c.args.map ac.eval).toList.length with hi|hi
   ·rw[Qbb (by rw[h1];exact hi)] at hu
    rw[Qbb hi] at hu';exact h2 i u u' hu hu'
   ·rw[Qba (by rw[h1];exact hi),h1] at hu
    rw[Qba hi] at hu';exact .val (.cell (h3 _ u u' hu (by simpa using hu')))) he
  refine .enter (f:=f) (args:=c.args.map ac.eval++vs) ?_ ?_
  ·have hr:=Nb0 (w:=w) k1 (c.args.map ac.eval++vs);simp[execOp,ho,resolve,hc,e,Deferred.ofValue,invoke,hr]
  ·have:((c.args.map ac.eval).toList++vs.toList).toArray=c.args.map ac.eval++vs:=by simp
   rw[this] at k2;exact k2
 |_=>intro he;cases he
end
end Go.Ev
