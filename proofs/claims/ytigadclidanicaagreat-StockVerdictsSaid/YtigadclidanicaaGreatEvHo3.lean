/- Own work. -/
import Derived.Test.YtigadclidanicaaGreatEvSp6
import Derived.MapKept
import GoSem.Instr.MapUpdate
import Derived.OrdersIn
set_option linter.all false
noncomputable section
def Qea:=@List.eq_nil_iff_forall_not_mem
def Qeb:=@Array.getElem?_setIfInBounds_ne
def Qec:=@Classical.byContradiction
def Qed:=@Array.size_setIfInBounds
def Qee:=@List.range'_succ
def Qef:=@Nat.le_of_not_lt
def Qeg:=@Array.getElem?_eq_none
def Qeh:=@List.contains_iff_mem
def Qei:=@List.mem_iff_getElem
def Qej:=@Array.ext_getElem?
namespace Go.Ev
open Go
section
variable{P:Program}{w:World}
def wf5(P:Program)(w:World)(em:Bool)(m:Nat)(t:TypeId)(l:List (Nat×CK)):Prop :=
 ∀v:Value,(agT P t=true->v=.agg v.cells)->(agT P t=false->v.cells=#[v])->(∀p∈l,ab0 v.cells p)->(Instr.checkKey em m t v).run P w=.ok () w
theorem wf5.step {em : Bool} {m : Nat} {t : TypeId} {l : List (Nat × CK)} (h : wf5 P w em m t l) (hf : Lf0 P w 0 t l ∨ True) (hu : P.underlying t ≠ none) (hone : agT P t = false → l ≠ [] ∧ ∀ p ∈ l, p.1 = 0) {xs : Array Value} {off : Nat} (hl : ∀ p ∈ l, p.1 < szT P t) (hx : ∀ p ∈ l.map fun p => (off + p.1, p.2), ab0 xs p) :
  ∃a,(part t xs off).run P w=.ok a w/\(Instr.checkKey em m t a).run P w=.ok () w:=by
 have hx':∀p∈l,ab0 xs (off+p.1,p.2):=λp hp=>hx _ (Qbq.2 ⟨p,hp,rfl⟩)
 obtain⟨a,a1,a2,a4,a3⟩:=Hd1 (w:=w) hu hone hl hx';refine⟨a,a1,h a a2 a4 λp hp=>?_⟩
 have:=hx' p hp;unfold ab0 at this ⊢;rw[a3 p hp];exact this
theorem od8(em:Bool):∀(d:Nat) (t:TypeId) (l:List (Nat×CK)),ka2 P d t=some l->∀m,d<=m->wf5 P w em m t l
 |0,_,_,h,_,_=>by cases h
 |d+1,t,l,h,0,hm=>by omega
 |d+1,t,l,h,m+1,hm=>by
  intro v hv1 hv2 hv3;unfold ka2 at h;cases hu:P.underlying t with
  |none=>simp[hu] at h
  |some u =>
  cases u with
  |int k =>
   simp only[hu] at h;injection h with h;subst h
   have hag:agT P t=false:=Ed3 (by simp[hu]) (by simp[hu])
   obtain⟨n,e1⟩:=hv3 (0,.int k) (by simp)
   rw[hv2 hag] at e1;have e1':v=.int k n:=by simpa using e1
   subst e1';simp[Instr.checkKey,run_underlying hu]
  |bool =>
   simp only[hu] at h;injection h with h;subst h
   have hag:agT P t=false:=Ed3 (by simp[hu]) (by simp[hu])
   obtain⟨n,e1⟩:=hv3 (0,.bool) (by simp)
   rw[hv2 hag] at e1;have e1':v=.bool n:=by simpa using e1
   subst e1';simp[Instr.checkKey,run_underlying hu]
  |struct fs =>
   simp only[hu] at h
   split at h
   ·cases h
   have hag:agT P t=true:=by simp[agT,hu]
   rw[hv1 hag];generalize v.cells=xs at *
   rw[Instr.checkKey];simp only[Sem.run_bind,run_underlying hu,Result.andThen_ok];rw[<- Array.forIn_toList]
   clear hu hv1 hv2 hag
   generalize fs.toList=fl at *
   induction fl generalizing l with
   |nil=>simp
   |cons f fl ih =>
    simp only[Qbp,Ba9] at h
    split at h
    ·rename_i l1 l2 e1 e2;injection h with h;subst h
     split at e1
     ·cases e1
     rename_i hnm;obtain⟨l',g1,g2,g3⟩:=mb4 e1;subst g3;have hfl:=Oc6 (w:=w) d f.type l' g1;obtain⟨a,p1,p2⟩:=(od8 em d f.type l' g1 m (by omega)).step (w:=w) (.inr trivial) hfl.und hfl.one g2 (λp hp=>hv3 p (Qbj _ hp))
     simp only[List.forIn_cons,Sem.run_bind,hnm,ne_eq,not_false_eq_true,if_true,Result.andThen_ok,p1,p2,Sem.run_pure];exact ih l2 (λp hp=>hv3 p (Qcg _ hp)) e2
    ·cases h
  |array n e =>
   simp only[hu] at h
   split at h
   case isFalse=>cases h
   rename_i hi;obtain⟨ti,hi⟩:=Qbd.1 hi;have hag:agT P t=true:=by simp[agT,hu]
   rw[hv1 hag];generalize v.cells=xs at *
   rw[Instr.checkKey];simp only[Sem.run_bind,run_underlying hu,Result.andThen_ok];simp only[Std.Legacy.Range.forIn_eq_forIn_range',Std.Legacy.Range.size,Nat.sub_zero,Nat.add_one_sub_one,Nat.div_one];rw[List.range_eq_range'] at h;have hsz:∀w:World,(sizeOf e).run P w=.ok (szT P e) w:=λw=>by simp[sizeOf,typeInfo,hi,szT]
   clear hu hv1 hv2 hag
   generalize List.range' 0 n=fl at *
   induction fl generalizing l with
   |nil=>simp
   |cons f fl ih =>
    simp only[Qbp,Ba9] at h
    split at h
    ·rename_i l1 l2 e1 e2;injection h with h;subst h
     obtain⟨l',g1,g2,g3⟩:=mb4 e1;subst g3;have hfl:=Oc6 (w:=w) d e l' g1;obtain⟨a,p1,p2⟩:=(od8 em d e l' g1 m (by omega)).step (w:=w) (.inr trivial) hfl.und hfl.one g2 (λp hp=>hv3 p (Qbj _ hp))
     simp only[List.forIn_cons,Sem.run_bind,hsz,Result.andThen_ok,p1,p2,Sem.run_pure];exact ih l2 (λp hp=>hv3 p (Qcg _ hp)) e2
    ·cases h
  |_=>simp[hu] at h
theorem Re5{fl:List (Nat×CK)}(hk:∀p∈fl,(∃i,p.2=.int i)\/p.2=.bool){vs us:Array Value}(h1:∀p∈fl,ab0 vs p)(h2:∀p∈fl,ab0 us p){cs ds:List b7}(hc:∀(i:Nat) v,vs[i]?=some v->hdA (s9 cs i)=.v v)(hd:∀(i:Nat) v,us[i]?=some v->hdA (s9 ds i)=.v v) :
  fl.all (Hb6 vs us)=Sc0 fl cs ds:=by
 induction fl with
 |nil=>rfl
 |cons p fl ih =>
  have e:Sc0 (p::fl) cs ds=(dg4 p.2 (hdA (s9 cs p.1)) (hdA (s9 ds p.1))&&Sc0 fl cs ds):=rfl;rw[List.all_cons,ih (λq hq=>hk q (by simp[hq])) (λq hq=>h1 q (by simp[hq])) (λq hq=>h2 q (by simp[hq])),e]
  congr 1;have g1:=h1 p (by simp)
  have g2:=h2 p (by simp)
  obtain⟨n,kk⟩:=p;unfold ab0 at g1 g2;unfold Hb6
  rcases hk (n,kk) (by simp) with⟨i,hi⟩|hi
  ·simp only at hi;subst hi
   obtain⟨m,hm⟩:=g1;obtain⟨m',hm'⟩:=g2
   simp only at hm hm' ⊢
   rw[hc n _ hm,hd n _ hm',hm,hm'];rfl
  ·simp only at hi;subst hi
   obtain⟨m,hm⟩:=g1;obtain⟨m',hm'⟩:=g2
   simp only at hm hm' ⊢
   rw[hc n _ hm,hd n _ hm',hm,hm'];rfl
theorem wf6{ks:Array Value}{r:List b7}(i:Nat)(v:Value)(h:ks[i]?=some v):hdA (s9 (ks.toList.map .v++r) i)=.v v:=by
 rw[dd2]
 grind
theorem gg3{ks:Array Value}(i:Nat)(v:Value)(h:ks[i]?=some v):hdA (s9 (ks.toList.map .v) i)=.v v:=by
 have:=wf6 (r:=[]) i v h
 simp_all
section
variable{K:TypeId}{fl:List (Nat×CK)}{kl:Nat}(hag:agT P K=true)(hf:ka2 P 9 K=some fl)
include hag hf
theorem gg4{ks us:Array Value}(h1:∀p∈fl,ab0 ks p)(h2:∀p∈fl,ab0 us p):(Op.equal K (.agg ks) (.agg us)).run P w=.ok (fl.all (Hb6 ks us)) w :=
 (Oc6 (w:=w) (9+9991) K fl (Xc8 hf 9991)).eq (.agg ks) (.agg us) (λ_=>rfl) (λ_=>rfl) (λh=>by rw[hag] at h;cases h) (λh=>by rw[hag] at h;cases h) h1 h2
theorem Ce9{ks:Array Value}(h1:∀p∈fl,ab0 ks p):∀(es:List MapEntry) (rows:List (List b7)) (i:Nat),es.length=rows.length->(∀(j:Nat) r e,rows[j]?=some r->es[j]?=some e->Jd8 fl kl r e) ->
  ((Instr.findAsking K (.agg ks) es i).run P w=.ok none w/\vd0 fl (ks.toList.map .v) rows=none/\∀new,dc1 fl (ks.toList.map .v) new rows=rows++[new]) \/
  (∃j e r,(Instr.findAsking K (.agg ks) es i).run P w=.ok (some (i+j,e.val)) w/\es[j]?=some e/\rows[j]?=some r/\vd0 fl (ks.toList.map .v) rows=some r/\(∀new,dc1 fl (ks.toList.map .v) new rows=rows.set j new)/\∃us,e.key=.agg us/\fl.all (Hb6 ks us)=true)
 |[],[],i,_,_=>.inl ⟨by simp[Instr.findAsking],rfl,λnew=>rfl⟩
 |[],r::rows,i,hl,_=>by simp at hl
 |e::es,[],i,hl,_=>by simp at hl
 |e::es,r::rows,i,hl,hr=>by
  obtain⟨us,v,g1,g2,g3,g4,g5⟩:=hr 0 r e rfl rfl;have hk:=Rb2 9 K fl hf;have he:=gg4 (w:=w) hag hf h1 g5;have hq:fl.all (Hb6 ks us)=Sc0 fl (ks.toList.map .v) r:=by
   rw[g1];exact Re5 hk h1 g5 gg3 wf6
  have eR:vd0 fl (ks.toList.map .v) (r::rows)=Bool.rec (motive:=λ_=>Option (List b7)) (vd0 fl (ks.toList.map .v) rows) (some r) (Sc0 fl (ks.toList.map .v) r):=rfl
  have eU:∀new,dc1 fl (ks.toList.map .v) new (r::rows)=Bool.rec (motive:=λ_=>List (List b7)) (r::dc1 fl (ks.toList.map .v) new rows) (new::rows) (Sc0 fl (ks.toList.map .v) r):=λ_=>rfl
  cases hb:fl.all (Hb6 ks us) with
  |true =>
   rw[hb] at he;rw[hb] at hq;refine .inr ⟨0,e,r,by simp[Instr.findAsking,g3,he],rfl,rfl,by rw[eR,<- hq],λnew=>by rw[eU,<- hq];rfl,us,g3,hb⟩
  |false =>
   rw[hb] at he;rw[hb] at hq
   rcases Ce9 h1 es rows (i+1) (by simpa using hl) (λj r' e' hj hj'=>hr (j+1) r' e' (by simpa using hj) (by simpa using hj')) with⟨k1,k2,k3⟩|⟨j,e',r',k1,k2,k3,k4,k5,k6⟩
   ·refine .inl ⟨by simp[Instr.findAsking,g3,he,k1],by rw[eR,<- hq];exact k2,λnew=>by rw[eU,<- hq];show r::dc1 _ _ _ _=_;rw[k3 new];rfl⟩
   ·refine .inr ⟨j+1,e',r',by simp[Instr.findAsking,g3,he,k1,Qal,Nat.add_comm 1 j],by simpa using k2,by simpa using k3,by rw[eR,<- hq];exact k4,λnew=>by rw[eU,<- hq];show r::dc1 _ _ _ _=_;rw[k5 new];rfl,k6⟩
end
end
def Ec9(fl:List (Nat×CK))(kl:Nat):Bool:=(List.range kl).all λi=>fl.any λp=>Nat.beq p.1 i
def wf7(P:Program)(t:TypeId):Bool:=match P.info? t with
 |some i=>match i.zero with
  |some (.bool b)=>!b
  |_=>false
 |none=>false
theorem fe0{fl:List (Nat×CK)}{kl i:Nat}(h:Ec9 fl kl=true)(hi:i<kl):∃p∈fl,p.1=i:=by
 unfold Ec9 at h
 simp_all
section
variable{WB K:Nat->Prop}{J:List Value->World->Prop}{ρ ρ0:Rho}{H H0 H':List c7}{F F0:Fz}{w w0 w':World}{W':Nat->Prop}{up:List Value}{E:Env}{a:List b7}{ac:Act}{x:b7}{o:Oper}
theorem mf3{x x':Value}(h:XW ρ H F w (.v x) x'):x'=x:=by
 cases h with
 |w h=>exact fa0 h
 |c h=>cases h with
  |n h=>exact fa0 (.val (.cell h))
theorem wf8{fl:List (Nat×CK)}{kl:Nat}{ks:List b7}{v:Value}(hcov:Ec9 fl kl=true)(hk:∀p∈fl,(∃i,p.2=.int i)\/p.2=.bool)(hx:XW ρ H F w (.agg ks) v)(hlen:ks.length=kl)(hok:Oe0 fl ks=true) :
  ∃vs:Array Value,v=.agg vs/\ks=vs.toList.map .v/\vs.size=kl/\∀p∈fl,ab0 vs p:=by
 have hx':K8 ρ (A2 H) F w (.agg ks) v:=by
  cases hx with
  |w h=>exact h
  |c h=>cases h with
   |n h=>exact .val (.cell h)
 obtain⟨vs,rfl,hl,hr⟩:=Ja5 hx';have h1:=Hd3 hok;have k1:∀p∈fl,ab0 vs p:=λp hp=>(Cc8 hl hr (hk p hp) (h1 p hp)).1
 refine⟨vs,rfl,List.ext_getElem (by simpa using hl) λi hi hi'=>?_,by rw[<- hl];exact hlen,k1⟩
 obtain⟨p,hp,rfl⟩:=fe0 hcov (hlen ▸ hi);have h2:=h1 p hp;rw[dd2,Qaa hi] at h2;simp only[Option.getD_some] at h2;have hi2:p.1<vs.size:=hl ▸ hi;have hrel:=hr p.1 _ _ (Qaa hi) (Qac hi2);have hv:∃u,ks[p.1]=.v u:=by
  rcases hk p hp with⟨q,e⟩|e<;>rw[e] at h2<;>revert h2<;>cases ks[p.1]<;>intro h2<;>first|exact⟨_,rfl⟩|cases h2
 obtain⟨u,hu⟩:=hv;rw[hu] at hrel ⊢
 have:=fa0 (.val (.cell hrel))
 simp[this]
theorem wf9(m:Nat)(k:IntKind)(a:Int):Instr.sameBits m (.int k a) (.int k a)=true:=by cases m<;>simp[Instr.sameBits]
theorem mf4(m:Nat)(a:Bool):Instr.sameBits m (.bool a) (.bool a)=true:=by cases m<;>simp[Instr.sameBits]
theorem mf5{fl:List (Nat×CK)}{kl m:Nat}{ks us:Array Value}(hcov:Ec9 fl kl=true)(hk:∀p∈fl,(∃i,p.2=.int i)\/p.2=.bool)(h1:ks.size=kl)(h2:us.size=kl)(a1:∀p∈fl,ab0 ks p)(a2:∀p∈fl,ab0 us p)(he:fl.all (Hb6 ks us)=true) :
  Instr.sameBits (m+1) (.agg us) (.agg ks)=true:=by
 rw[Instr.sameBits];rw[Qas];refine⟨by simp[h1,h2],?_⟩
 rw[Qcc];intro q hq;obtain⟨i,hi,hq⟩:=Qei.1 hq;rw[List.getElem_zip] at hq;have hi':i<kl:=by rw[List.length_zip,Array.length_toList,Array.length_toList] at hi;omega
 obtain⟨p,hp,rfl⟩:=fe0 hcov hi';have e:=Qcc.1 he p hp;have b1:=a1 p hp;have b2:=a2 p hp;have g1:ks[p.1]?=some (ks[p.1]'(by omega)):=Qac _
 have g2:us[p.1]?=some (us[p.1]'(by omega)):=Qac _
 rw[<- hq];simp only[Array.getElem_toList];unfold ab0 at b1 b2;unfold Hb6 at e
 rcases hk p hp with⟨k,hkk⟩|hkk
 ·rw[hkk] at b1 b2;obtain⟨n,b1⟩:=b1;obtain⟨n',b2⟩:=b2;rw[b1,b2] at e;have e:n=n':=by simpa using e
  subst e;rw[g1] at b1;rw[g2] at b2;rw[Qag b1,Qag b2];exact wf9 _ _ _
 ·rw[hkk] at b1 b2;obtain⟨n,b1⟩:=b1;obtain⟨n',b2⟩:=b2;rw[b1,b2] at e;have e:n=n':=by simpa using e
  subst e;rw[g1] at b1;rw[g2] at b2;rw[Qag b1,Qag b2];exact mf4 _ _
theorem Fc0{k:Nat}{es:Array MapEntry}{clk:Nat}(P:Program)(h:w.heap[k]?=some (.map es clk)):(getObj k).run P w=.ok (.map es clk) w:=by simp[getObj,Sem.run,h]
theorem Fc1{k:Nat}{es:Array MapEntry}{clk:Nat}(P:Program)(o:Obj)(h:w.heap[k]?=some (.map es clk)):(setObj k o).run P w=.ok () (w.putObj k o):=by simp[setObj,Sem.run,h,World.putObj]
theorem vd9{P:Program}{t:TypeId}{fl:List (Nat×CK)}{kl:Nat}(hag:agT P t=true)(hf:ka2 P 9 t=some fl){ks:Array Value}(h1:∀p∈fl,ab0 ks p)(es:List MapEntry)(rows:List (List b7))(hl:es.length=rows.length)(hr:∀(j:Nat) r e,rows[j]?=some r->es[j]?=some e->Jd8 fl kl r e) :
  ((Instr.findKey t (.agg ks) es).run P w=.ok none w/\vd0 fl (ks.toList.map .v) rows=none/\∀new,dc1 fl (ks.toList.map .v) new rows=rows++[new]) \/
  (∃j e r,(Instr.findKey t (.agg ks) es).run P w=.ok (some (j,e.val)) w/\es[j]?=some e/\rows[j]?=some r/\vd0 fl (ks.toList.map .v) rows=some r/\(∀new,dc1 fl (ks.toList.map .v) new rows=rows.set j new)/\∃us,e.key=.agg us/\fl.all (Hb6 ks us)=true):=by
 have hu:∃d,P.underlying t=some d/\∀e es i,Instr.findNow d (.agg ks) (e::es) i=none:=by
  unfold agT at hag
  split at hag
  ·rename_i fs h;exact⟨_,h,λe es i=>rfl⟩
  ·rename_i n e h;exact⟨_,h,λe es i=>rfl⟩
  ·cases hag
 obtain⟨d,hd,hnow⟩:=hu
 have:=Ce9 (w:=w) (kl:=kl) hag hf h1 es rows 0 hl hr
 have e0:(Instr.findKey t (.agg ks) es).run P w=(Instr.findAsking t (.agg ks) es 0).run P w:=by
  unfold Instr.findKey;simp only[Sem.run_bind,run_underlying hd,Result.andThen_ok];cases es with
  |nil=>simp[Instr.findNow,Instr.findAsking]
  |cons e es=>rw[hnow]
 rw[e0];simpa using this
section
variable{ds:List Deferred}{n:Nat}(hC:C2 E.P WB K J ρ0 H0 F0 w0 H ds w ρ F W' up)(hJ:Ec6 K J)
include hC hJ
theorem xf0{t:TypeId}{kt el:TypeId}{fl:List (Nat×CK)}(ho:o.op=.makeMap t none)(hu:E.P.underlying t=some (.map kt el))(hf:ka2 E.P 9 kt=some fl)(he:(Hb4 E a H (.mmake t)).run=some (x,H')) :
  s4 E.P o ac w (jc5 E.P WB K J ρ0 H0 F0 w0 ρ H F w up ds x H'):=by
 have he':some (b7.ptr (len H) 0 0 0,cd5 H (t+1) [])=some (x,H'):=he;injection he' with he';injection he' with e1 e2;subst e1 e2
 rw[z6];obtain⟨c1,c2,c3,c4⟩:=hC.alloc hJ (.map #[] 0);have hap:∀(id:Nat) b,H[id]?=some b->I4 b=true->b.dead=false->(ρ id).blk≠w.heap.size:=λid b hb hs hd=>Qan (hC.srel.has id b hb hs hd).2.2.2.1
 rw[Ce7];have hnew:(w.alloc (.map #[] 0)).heap[w.heap.size]?=some (.map #[] 0):=World.alloc_heap_new w _;refine .value (x':=.map (some w.heap.size)) (w':=w.alloc (.map #[] 0)) (by simp[execOp,ho,Instr.makeMap,run_newObj_alloc]) ?_
 obtain⟨d1,d2⟩:=c1.adopt w.heap.size 0 c3 (λh=>h.2 rfl) (λo hf=>c4 o hf) (by simp) hap (λhk=>Nat.lt_irrefl _ (hC.kept _ hk).2) { et:=t+1,es:=0,elems:=[],own:=true,dead:=false,g:=0 } (yb1 (t:=t) ⟨rfl,rfl⟩) rfl
  (.inr ⟨t,kt,el,fl,#[],0,⟨rfl,rfl⟩,hu,hf,hnew,rfl,λi r e hr=>by simp at hr⟩)
 refine⟨_,F,_,d1,λx x' hx=>d2 _ _ (c2 _ _ hx),.c ?_⟩
 have hρn:(ρnew ρ H ⟨w.heap.size,0,0⟩ H.length).blk=w.heap.size:=by simp[ρnew]
 have:=XC.map (ρ:=ρnew ρ H ⟨w.heap.size,0,0⟩) (F:=F) (w:=w.alloc (.map #[] 0)) H.length 0 0 { et:=t+1,es:=0,elems:=[],own:=true,dead:=false,g:=0 } t (H:=H++[{ et:=t+1,es:=0,elems:=[],own:=true,dead:=false,g:=0 }]) (by simp) rfl ⟨rfl,rfl⟩
 rwa [hρn] at this
variable(hv:VR ρ H F w a (ac.tmps.toList++up))(hn:ac.tmps.size=n)(hG:GOk E F w)
include hv hn hG
omit hJ in
theorem xf1{t:TypeId}{kt el:TypeId}{fl:List (Nat×CK)}{m:Nat}{y:Operand}(ho:o.op=.lookup t (.tmp m) y false)(hm:Nat.blt m n=true)(hy:ltO n y=true)(hu:E.P.underlying t=some (.map kt el))(hag:agT E.P kt=true)(hf:ka2 E.P 9 kt=some fl)(hcov:Ec9 fl (szT E.P kt)=true)(hz:wf7 E.P el=true)
  (he:(Hb4 E a H (.mlook t (szT E.P kt) fl m (o7 y))).run=some (x,H')) :
  s4 E.P o ac w (jc5 E.P WB K J ρ0 H0 F0 w0 ρ H F w up ds x H'):=by
 have hmr:=Lb6 hv hn hG (.tmp m) hm;have hyr:=Lb6 hv hn hG y hy;have hev:(ac.eval (.tmp m))=ac.tmps.getD m undef:=rfl;simp only[Hb4] at he;have hcA:o7 (.tmp m)=.t m:=rfl;rw[hcA] at hmr;cases hs:Sc1 (t+1) H (c9 E a (.t m)) with
 |none=>rw[hs] at he;cases he
 |some q =>
 obtain⟨id,c,g,b⟩:=q;rw[hs] at he
 simp only at he
 obtain⟨h1,h2,h3,h4,h5⟩:=ee9 hs hmr
 revert he hyr
 generalize c9 E a (o7 y)=ya;intro hyr he
 split at he
 case h_2=>cases he
 ·rename_i ks;obtain⟨hgd,he⟩:=DT.run_guard_some he;have he:some (b7.v (.bool (cd6 (szT E.P kt) fl ks b.elems)),H)=some (x,H'):=he;rw[Qas,z6] at hgd;obtain⟨vs,e1,e2,e3,e4⟩:=wf8 hcov (Rb2 9 kt fl hf) hyr (Qad hgd.1) hgd.2;obtain⟨rfl,rfl⟩:x=b7.v (.bool (cd6 (szT E.P kt) fl ks b.elems))/\H=H':=by injection he with he;injection he with e1 e2;exact⟨e1.symm,e2⟩
  subst e2;obtain⟨_,_,_,_,hcont⟩:=hC.srel.has id b h2 (yb1 h4) h3
  rcases hcont with⟨hb,_⟩|⟨t',K',El,fl',es,clk,m1,m2,m3,m4,m5,m6⟩
  ·exact (pc7 hb h4).elim
  have ht:t'=t:=Nat.succ.inj (m1.2.symm.trans h4.2);subst ht;rw[hu] at m2;injection m2 with m2;injection m2 with q1 q2;subst q1 q2
  rw[hf] at m3;injection m3 with m3;subst m3
  have hlen:es.toList.length=b.elems.length:=by rw[Array.length_toList];exact m5.symm
  have hrow:∀(j:Nat) r e,b.elems[j]?=some r->es.toList[j]?=some e->Jd8 fl (szT E.P kt) r e:=λj r e hr he=>m6 j r e hr (by simpa using he)
  have hfind:=vd9 (w:=w) (kl:=szT E.P kt) hag hf e4 es.toList b.elems hlen hrow;have hck:(Instr.checkKey es.isEmpty 10000 kt (.agg vs)).run E.P w=.ok () w:=od8 es.isEmpty 9 kt fl hf 10000 (by decide) (.agg vs) (λ_=>rfl) (λh=>by rw[hag] at h;cases h) e4
  have hgo:(getObj (ρ id).blk).run E.P w=.ok (.map es clk) w:=Fc0 E.P m4
  rcases hfind with⟨k1,k2,_⟩|⟨j,e,r,k1,k2,k3,k4,_,_⟩
  ·have hz' : (zeroValue el).run E.P w = .ok (.bool false) w := by
    unfold wf7 at hz
    split at hz
    ·rename_i i hi
     split at hz
     ·rename_i bb hbb;cases bb with
      |true=>cases hz
      |false=>simp[zeroValue,typeInfo,hi,hbb]
     ·cases hz
    ·cases hz
   refine .value (x':=.bool false) (w':=w) ?_ ⟨ρ,F,W',hC,λ_ _ h=>h,?_⟩
   ·simp[execOp,ho,Instr.lookup,run_underlying hu,h5,e1,hgo,hck,k1,hz']
   ·unfold cd6;rw[k2];exact .w (.val (.cell (.v _)))
  ·obtain⟨us,bb,g1,g2,g3,g4,g5⟩:=hrow j r e k3 k2;refine .value (x':=.bool bb) (w':=w) ?_ ⟨ρ,F,W',hC,λ_ _ h=>h,?_⟩
   ·simp[execOp,ho,Instr.lookup,run_underlying hu,h5,e1,hgo,hck,k1,g4]
   ·unfold cd6;rw[k4]
    have:toB (hdA (s9 r (szT E.P kt)))=bb:=by
     rw[dd2,g1,<- g2];rw[Qba (by simp)]
     simp[toB]
    show XW ρ H F w (.v (.bool (toB (hdA (s9 r (szT E.P kt)))))) _;rw[this];exact .w (.val (.cell (.v _)))
theorem Nf4{t:TypeId}{kt el:TypeId}{fl:List (Nat×CK)}{m:Nat}{y z:Operand}(ho:o.op=.mapUpdate t (.tmp m) y z)(hm:Nat.blt m n=true)(hy:ltO n y=true)(hz:ltO n z=true)(hu:E.P.underlying t=some (.map kt el))(hag:agT E.P kt=true)(hf:ka2 E.P 9 kt=some fl)(hcov:Ec9 fl (szT E.P kt)=true)
  (he:(Hb4 E a H (.mupd t (szT E.P kt) fl m (o7 y) (o7 z))).run=some (x,H')) :
  s4 E.P o ac w (jc5 E.P WB K J ρ0 H0 F0 w0 ρ H F w up ds x H'):=by
 have hmr:=Lb6 hv hn hG (.tmp m) hm;have hyr:=Lb6 hv hn hG y hy;have hzr:=Lb6 hv hn hG z hz;simp only[Hb4] at he;have hcA:o7 (.tmp m)=.t m:=rfl;rw[hcA] at hmr;cases hs:Sc1 (t+1) H (c9 E a (.t m)) with
 |none=>rw[hs] at he;cases he
 |some q =>
 obtain⟨id,c,g,b⟩:=q;rw[hs] at he
 simp only at he
 obtain⟨h1,h2,h3,h4,h5⟩:=ee9 hs hmr
 revert he hyr hzr
 generalize c9 E a (o7 y)=ya;generalize c9 E a (o7 z)=za;intro hyr hzr he
 split at he
 case h_2=>cases he
 rename_i ks bv;obtain⟨hgd,he⟩:=DT.run_guard_some he;have he:some (b7.v (.tuple #[]),setAt H id { b with elems:=dc1 fl ks (app ks [.v (.bool bv)]) b.elems })=some (x,H'):=he
 rw[Qas,z6] at hgd;have hkinds:=Rb2 9 kt fl hf;obtain⟨vs,e1,e2,e3,e4⟩:=wf8 hcov hkinds hyr (Qad hgd.1) hgd.2;have e5:=mf3 hzr;injection he with he;injection he with q1 q2
 subst q1 q2 e2;obtain⟨hWB,hnW,hnF,hlt,hcont⟩:=hC.srel.has id b h2 (yb1 h4) h3
 rcases hcont with⟨hb,_⟩|⟨t',K',El,fl',es,clk,m1,m2,m3,m4,m5,m6⟩
 ·exact (pc7 hb h4).elim
 have ht:t'=t:=Nat.succ.inj (m1.2.symm.trans h4.2);subst ht;rw[hu] at m2;injection m2 with m2;injection m2 with q1 q2;subst q1 q2
 rw[hf] at m3;injection m3 with m3;subst m3
 have hlen:es.toList.length=b.elems.length:=by rw[Array.length_toList];exact m5.symm
 have hrow:∀(j:Nat) r e,b.elems[j]?=some r->es.toList[j]?=some e->Jd8 fl (szT E.P kt) r e:=λj r e hr he=>m6 j r e hr (by simpa using he)
 have hfind:=vd9 (w:=w) (kl:=szT E.P kt) hag hf e4 es.toList b.elems hlen hrow;have hck:(Instr.checkKey false 10000 kt (.agg vs)).run E.P w=.ok () w:=od8 false 9 kt fl hf 10000 (by decide) (.agg vs) (λ_=>rfl) (λh=>by rw[hag] at h;cases h) e4
 have hgo:(getObj (ρ id).blk).run E.P w=.ok (.map es clk) w:=Fc0 E.P m4;have hnK:∀k,K k->k≠(ρ id).blk:=λk hk e=>hC.far id b h2 (yb1 h4) h3 (e ▸ hk)
 have hid:=(Qab.1 h2).1;have hnewrow:∀us:MapEntry,Jd8 fl (szT E.P kt) (app (vs.toList.map .v) [.v (.bool bv)]) { us with key:=.agg vs,val:=.bool bv }:=λus=>⟨vs,bv,by rw[K6],e3,rfl,rfl,e4⟩
 have hfin : ∀ (es' : Array MapEntry) (clk' : Nat), (dc1 fl (vs.toList.map .v) (app (vs.toList.map .v) [.v (.bool bv)]) b.elems).length = es'.size → b.elems.length ≤ es'.size → (∀ (i : Nat) r e, (dc1 fl (vs.toList.map .v) (app (vs.toList.map .v) [.v (.bool bv)]) b.elems)[i]? = some r → es'[i]? = some e → Jd8 fl (szT E.P kt) r e) →
   jc5 E.P WB K J ρ0 H0 F0 w0 ρ H F w up ds (.v (.tuple #[])) (H.set id { b with elems:=dc1 fl (vs.toList.map .v) (app (vs.toList.map .v) [.v (.bool bv)]) b.elems }) (.tuple #[]) (w.putObj (ρ id).blk (.map es' clk')):=λes' clk' hl1 hl2 hrows=>by
  obtain⟨c1,c2⟩:=hC.change (w':=w.putObj (ρ id).blk (.map es' clk')) (H':=H.set id { b with elems:=dc1 fl (vs.toList.map .v) (app (vs.toList.map .v) [.v (.bool bv)]) b.elems }) (up':=up) (ρ id).blk hWB hnW hnF rfl rfl rfl (Qaf _) (by simp) (λj hj=>World.putObj_heap_other hj)
   (λcc t' fr hcc=>by rw[m4] at hcc;cases hcc) (by simp)
   (λid' b' hb'=>by
    by_cases e:id=id'
    ·subst e;obtain rfl:b'=b:=Qag (hb'.symm.trans h2);exact⟨{ b' with elems:=dc1 fl (vs.toList.map .v) (app (vs.toList.map .v) [.v (.bool bv)]) b'.elems },by simp[hid],rfl,rfl,rfl,rfl,by simp only;rw[hl1];exact hl2,λhs0=>by rw[yb1 h4] at hs0;cases hs0⟩
    ·exact⟨b',by rw[Qah e];exact hb',rfl,rfl,rfl,rfl,Qaf _,λ_=>rfl⟩)
   (λid' b' hb' hs' hd' hne=>by
    have e:id≠id':=λe=>hne (by rw[e])
    rw[Qah e];exact hb')
   (λhx id' b' hb' hs' hd' hblk=>by
    have e:id=id':=Qec λhne=>by
     rw[Qah hne] at hb';exact hC.srel.apart id id' b b' h2 hb' (yb1 h4) hs' h3 hd' hne hblk.symm
    subst e
    have:b'={ b with elems:=dc1 fl (vs.toList.map .v) (app (vs.toList.map .v) [.v (.bool bv)]) b.elems }:=by simpa [hid] using hb'.symm
    subst this;exact .inr ⟨t',kt,el,fl,es',clk',h4,hu,hf,World.putObj_heap_same hlt,hl1,hrows⟩)
   (hJ up w _ (λk hk=>World.putObj_heap_other (hnK k hk)) hC.jot)
   (λD _ hD e=>by rw[e,m4] at hD;cases hD)
  exact⟨ρ,F,W',c1,c2,.w (.ofv _)⟩
 rw[H6]
 rcases hfind with⟨k1,_,k3⟩|⟨j,e,r,k1,k2,k3,k4,k5,us,k6,k7⟩
 ·have hso:=Fc1 E.P (.map (es.push { key:=.agg vs,val:=.bool bv,born:=clk }) (clk+1)) m4;refine .skip (w':=w.putObj (ρ id).blk (.map (es.push { key:=.agg vs,val:=.bool bv,born:=clk }) (clk+1))) ?_ (hfin _ _ ?_ ?_ ?_)
  ·simp[execOp,ho,Instr.mapUpdate,run_underlying hu,h5,e1,e5,hgo,hck,k1,hso]
  ·rw[k3];simp[m5]
  ·simp[m5]
  ·intro i r e hr he;rw[k3] at hr;by_cases hi:i<b.elems.length
   ·grind
   ·rw[Qba (by omega)] at hr
    have hi0:i-b.elems.length=0:=by
     grind
    rw[hi0] at hr;rw[Qau,if_pos (by omega)] at he
    simp at hr he
    subst hr he;exact hnewrow { key:=.agg vs,val:=.bool bv,born:=clk }
 ·have k2':es[j]?=some e:=by simpa using k2
  obtain⟨us',bb,g1,g2,g3,g4,g5⟩:=hrow j r e k3 k2;rw[k6] at g3;injection g3 with g3;subst g3;have hsame:Instr.sameBits 10000 (.agg us) (.agg vs)=true:=mf5 (m:=9999) hcov hkinds e3 g2 e4 g5 k7;have hso:=Fc1 E.P (.map (es.modify j λe=>{ e with key:=.agg vs,val:=.bool bv }) clk) m4
  refine .skip (w':=w.putObj (ρ id).blk (.map (es.modify j λe=>{ e with key:=.agg vs,val:=.bool bv }) clk)) ?_ (hfin _ _ ?_ ?_ ?_)
  ·simp[execOp,ho,Instr.mapUpdate,run_underlying hu,h5,e1,e5,hgo,hck,k1,k2',k6,Instr.keyThatStays,hsame,hso]
  ·rw[k5];simp[m5]
  ·simp[m5]
  ·intro i r' e' hr he;rw[k5] at hr;rw[Qdd] at he;by_cases hi:j=i
   ·subst hi;rw[if_pos rfl,k2'] at he;have hj:=(Qab.1 k3).1;rw[Qbx hj] at hr
    simp at hr he
    subst hr he;exact hnewrow e
   ·rw[if_neg hi] at he;rw[Qah hi] at hr;exact m6 i r' e' hr he
end
end
def Pu{α:Type}(s:Sem α):Prop:=∀P w r w',s.run P w=.ok r w'->w'=w
def Nv{α:Type}(s:Sem α):Prop:=∀P w r w',s.run P w≠.ok r w'
theorem Nv.pu{α:Type}{s:Sem α}(h:Nv s):Pu s:=λP w r w' e=>absurd e (h P w r w')
theorem Ja7{α:Type}(x:α):Pu (Pure.pure x:Sem α):=λP w r w' e=>by
 simp only[Sem.run_pure] at e;injection e with _ e;exact e.symm
theorem Ed7{α β:Type}{x:Sem α}{f:α->Sem β}{P:Program}{w w':World}{r:β}(e:(x >>= f).run P w=.ok r w'):∃a w1,x.run P w=.ok a w1/\(f a).run P w1=.ok r w':=by
 rw[Sem.run_bind] at e;cases h:x.run P w with
 |ok a w1=>rw[h] at e;exact⟨a,w1,rfl,e⟩
 |halt c w1=>rw[h] at e;cases e
theorem Ja8{α β:Type}{x:Sem α}{f:α->Sem β}(hx:Pu x)(hf:∀a,Pu (f a)):Pu (x >>= f):=λP w r w' e=>by
 obtain⟨a,w1,h1,h2⟩:=Ed7 e;rw[hf a P w1 r w' h2,hx P w a w1 h1]
theorem Ed8{α β:Type}{x:Sem α}{f:α->Sem β}(hf:∀a,Nv (f a)):Nv (x >>= f):=λP w r w' e=>by
 obtain⟨a,w1,h1,h2⟩:=Ed7 e;exact hf a P w1 r w' h2
theorem Ed9{α:Type}(h:Halt):Nv (.halt h:Sem α):=λP w r w' e=>by cases e
theorem pb8{α:Type}(s:String):Nv (stuck s:Sem α):=Ed9 _
theorem Kd2{α:Type}(u:Unsupported):Nv (unsupported u:Sem α):=Ed9 _
theorem pc8:Pu program:=λP w r w' e=>by
 have e:(Result.ok P w)=.ok r w':=e;injection e with _ e;exact e.symm
theorem af8(a:Addr)(m:Mode):Pu (load a m):=λP w r w' e=>by
 simp only[load,Sem.run] at e
 split at e
 ·injection e with _ e;exact e.symm
 ·split at e
  ·injection e with _ e;exact e.symm
  ·cases e
theorem De0(k:Nat):Pu (shape k):=λP w r w' e=>by
 simp only[shape,Sem.run] at e;injection e with _ e;exact e.symm
theorem fe1(k:Nat):Pu (getObj k):=λP w r w' e=>by
 simp only[getObj,Sem.run] at e
 split at e
 ·cases e
 ·injection e with _ e;exact e.symm
 ·cases e
theorem fd4(t:TypeId):Pu (underlying t):=Ja8 pc8 λp=>by
 split
 ·exact Ja7 _
 ·exact (pb8 _).pu
theorem Nf5(t:TypeId):Pu (typeInfo t):=Ja8 pc8 λp=>by
 split
 ·exact Ja7 _
 ·exact (pb8 _).pu
theorem oe5(t:TypeId):Pu (sizeOf t):=Ja8 (Nf5 t) λ_=>Ja7 _
theorem gg5(t:TypeId):Pu (isAgg t):=Ja8 (fd4 t) λ_=>by split<;>exact Ja7 _
theorem oe6(v:Value):Pu (Instr.sureAddr v):=by
 unfold Instr.sureAddr;split
 ·exact Ja7 _
 ·exact (pb8 _).pu
theorem fd5(a:Addr):∀(n i:Nat) (acc:Array Value),Pu (loadCellsFrom a i n acc)
 |0,_,_=>Ja7 _
 |n+1,i,acc=>Ja8 (af8 _ _) λ_=>fd5 a n (i+1) _
theorem oe7(a:Addr)(n:Nat):Pu (Go.loadCells a n):=fd5 a n 0 #[]
theorem Re6(t:TypeId)(a:Addr):Pu (loadVar t a):=Ja8 (gg5 t) λb=>by
 cases b
 ·exact af8 _ _
 ·refine Ja8 (oe5 t) λn=>?_
  exact Ja8 (oe7 _ _) λ_=>Ja7 _
theorem mf6(t:TypeId)(v:Value):Pu (Instr.loadAt t v):=Ja8 (oe6 v) λa=>Re6 t a
theorem mf7(a:Addr):Pu (noView a):=by
 unfold noView
 repeat' (first | exact Ja7 _ | exact De0 _ | exact (pb8 _).pu | exact (Kd2 _).pu | refine Ja8 ?_ (λ_=>?_) | split | exact pc8 | exact fe1 _)
theorem mf8(a:Addr):Pu (byteOf a):=by
 unfold byteOf
 repeat' (first | exact Ja7 _ | exact De0 _ | exact mf7 _ | exact (pb8 _).pu | exact pc8 | refine Ja8 ?_ (λ_=>?_) | split | dsimp only)
theorem mf9(a:Addr)(c b:Nat):Pu (partAt a c b):=by
 unfold partAt
 repeat' (first | exact Ja7 _ | exact mf8 _ | refine Ja8 ?_ (λ_=>?_) | split | dsimp only)
theorem Re7(s:TypeId)(v:Value)(f:Nat):Pu (Instr.fieldAt s v f):=by
 unfold Instr.fieldAt fieldPlace
 repeat' (first | exact Ja7 _ | exact fd4 _ | exact oe6 _ | exact oe5 _ | exact mf9 _ _ _ | exact (pb8 _).pu | refine Ja8 ?_ (λ_=>?_) | split | dsimp only)
theorem rg7(e:RuntimeError){α:Type}:Nv (runtimePanic e:Sem α):=by
 unfold runtimePanic;refine Ed8 λp=>?_
 simp only
 split<;>first | exact Ed9 _ | exact Ed8 λ_=>Ed8 λ_=>Ed9 _
theorem rg8(k:IntKind)(x y:Int)(c:BoundsCode){α:Type}:Nv (boundsPanic k x y c:Sem α):=by
 unfold boundsPanic
 dsimp only
 split<;>exact Ed8 λ_=>rg7 _
theorem xf2(v:Value):Pu (asIntOf v):=by
 unfold asIntOf
 repeat' (first | exact Ja7 _ | exact (pb8 _).pu | exact (Kd2 _).pu | split)
theorem Re8(t:TypeId)(x v:Value):Pu (Instr.indexAt t x v):=by
 unfold Instr.indexAt
 repeat' (first | exact Ja7 _ | exact xf2 _ | exact fd4 _ | exact oe6 _ | exact oe5 _ | exact (rg8 _ _ _ _).pu | exact (pb8 _).pu | exact (Kd2 _).pu | refine Ja8 ?_ (λ_=>?_) | split | dsimp only)
theorem gg6(a:Array TypeId)(t:TypeId)(x:Array Value):Pu (Builtin.len_ a t x):=by
 unfold Builtin.len_
 repeat' (first | exact Ja7 _ | exact fd4 _ | exact fe1 _ | exact (pb8 _).pu | refine Ja8 ?_ (λ_=>?_) | split | dsimp only)
def Uc5(o:Oper):Bool:=o.guard.isNone&&match o.op with
 |.move _=>true
 |.load ..=>true
 |.fieldAddr ..=>true
 |.indexAddr ..=>true
 |.makeFunc ..=>true
 |.call c=>match c.callee with
  |.builtin .len=>true
  |_=>false
 |_=>false
theorem xf3{o:Oper}(h:Uc5 o=true){r:Operand->Value}{P:Program}{w w':World}{x:Next}(e:(execOp r o).run P w=.ok x w'):(∃v,x=.value v)/\w'=w:=by
 have key:∀{s:Sem Value},Pu s->(s >>= λv=>(Pure.pure (Next.value v):Sem Next)).run P w=.ok x w'->(∃v,x=.value v)/\w'=w:=λ{s} hs e=>by
  obtain⟨a,w1,h1,h2⟩:=Ed7 e;rw[Sem.run_pure] at h2;injection h2 with h2 h3;exact⟨⟨a,h2.symm⟩,by rw[<- h3];exact hs P w a w1 h1⟩
 unfold Uc5 at h;rw[Qas] at h;obtain⟨_,h⟩:=h;unfold execOp at e
 split at h
 ·rename_i ho;rw[ho] at e;simp only[Sem.run_pure] at e;injection e with e1 e2;exact⟨⟨_,e1.symm⟩,e2.symm⟩
 ·rename_i ho;rw[ho] at e;exact key (mf6 _ _) e
 ·rename_i ho;rw[ho] at e;exact key (Re7 _ _ _) e
 ·rename_i ho;rw[ho] at e;exact key (Re8 _ _ _) e
 ·rename_i ho;rw[ho] at e;refine key (s:=Instr.makeFunc _ _ _) (Ja7 _) e
 ·rename_i c ho;rw[ho] at e
  split at h
  ·rename_i hc;simp only[resolve,hc] at e;obtain⟨d,w1,h1,h2⟩:=Ed7 e;rw[Sem.run_pure] at h1;injection h1 with h1 h3;subst h1 h3;exact key (gg6 _ _ _) h2
  ·cases h
 ·cases h
def opO(ops:Array Oper)(j:Nat):Oper:=ops.getD j default
def Nf6(ops:Array Oper):Bool :=
 Nat.blt 0 ops.size&&((List.range ops.size).all λj=>(L3 (opO ops j)).all λi=>Nat.blt i j) &&
 (List.range (ops.size-1)).all λj=>Uc5 (opO ops j)&&((opO ops j).dst.isSome&&(((List.range j).all λi=>(opO ops i).dst != (opO ops j).dst) &&
  (((List.range ops.size).any λk=>Nat.blt j k&&(L3 (opO ops k)).contains j) &&
  (opO ops j).op.operands.toList.all λx=>match x with
   |.tmp t=>(List.range (ops.size-1)).all λi=>(opO ops i).dst != some t||(L3 (opO ops j)).contains i
   |_=>true)))
def De1(o:Oper):Oper:={ o with dst:=none,op:=.move (.const (.bool true)),guard:=none }
def Fc2(b:Bool)(o:Oper):Oper:=match b with
 |true=>De1 o
 |false=>o
def wd0(B:Nat->Bool)(m:Nat):Nat->List Oper->List Oper
 |_,[]=>[]
 |k,o::r=>Fc2 (B k||Nat.ble m k) o::wd0 B m (k+1) r
def Xb5(B:Nat->Bool)(m:Nat)(ops:Array Oper):Array Oper:=⟨wd0 B m 0 ops.toList⟩
def od9(o:Oper):Bool:=match o.op with
 |.select _ _=>false
 |.defer _=>false
 |_=>true
def Kd3(ops:Array Oper)(j:Nat):Bool:=(List.range j).all λi=>(L3 (opO ops j)).contains i
def Q1(ops:Array Oper):Nat->Nat
 |0=>0
 |j+1=>match Kd3 ops j with
  |true=>Q1 ops j
  |false=>j+1
def xf4:Operand->Option Nat
 |.tmp t=>some t
 |_=>none
def Kd4(B:Nat->Bool)(m:Nat)(ops:Array Oper):Bool :=
 Nat.ble m ops.size&&((List.range ops.size).all λj=>(L3 (opO ops j)).all λi=>Nat.blt i j) &&
 ((List.range ops.size).all λj=>Nat.blt j m||Kd3 ops j) &&
 (List.range m).all λj =>
  (match B j with
   |true=>Uc5 (opO ops j)&&(opO ops j).dst.isSome
   |false=>od9 (opO ops j)&&match (opO ops j).guard with
    |none=>true
    |some (g,_)=>Nat.blt g m&&!B g&&(List.range m).all λi=>!B i||(opO ops i).dst.isNone||(opO ops i).dst != (opO ops g).dst) &&
  (opO ops j).op.operands.toList.all λx=>match xf4 x with
   |some t=>(List.range m).all λi=>!B i||(opO ops i).dst != some t||(L3 (opO ops j)).contains i
   |none=>true
def fd6(pr:List Nat):Operand->Option Nat
 |.tmp p=>if pr.contains p then some p else none
 |_=>none
def xf5(pr:List Nat)(o:Oper):Bool:=match o.dst with
 |some d=>pr.contains d
 |none=>false
def wc5(b:Bool)(x:SP):SP:=match b with
 |true=>x
 |false=>.bad
structure rg9 where
 kt:TypeId
 el:TypeId
 fl:List (Nat×CK)
def xf6(P:Program)(t:TypeId):Option rg9:=match P.underlying t with
 |some (.map kt el)=>match ka2 P 9 kt with
  |some fl=>match agT P kt&&Ec9 fl (szT P kt) with
   |true=>some ⟨kt,el,fl⟩
   |false=>none
  |none=>none
 |_=>none
def cSp(P:Program)(n:Nat)(pr:List Nat)(o:Oper):Option SP :=
 match o.op with
 |.alloc t=>match xf5 pr o with
  |true=>match zeT P t with
   |some z=>some (.balloc z)
   |none=>some .bad
  |false=>none
 |.box _ x=>match xf5 pr o with
  |true=>some (wc5 (ltO n x) (.bbox (o7 x)))
  |false=>none
 |.load t x=>match fd6 pr x with
  |some p=>some (wc5 (Nat.blt p n&&(P.underlying t).isSome) (.bload (szT P t) (agT P t) p))
  |none=>none
 |.store t x y=>match fd6 pr x with
  |some p=>some (wc5 (Nat.blt p n&&ltO n y&&!Nat.beq (szT P t) 0) (.bstore (szT P t) p (o7 y)))
  |none=>none
 |.fieldAddr s x f=>match fd6 pr x with
  |some p=>match P.underlying s with
   |some (.struct fs)=>match fs[f]? with
    |some fd=>some (wc5 (Nat.blt p n&&!Nat.beq (szT P fd.type) 0) (.bfld fd.offset p))
    |none=>some .bad
   |_=>some .bad
  |none=>none
 |.move x=>match fd6 pr x with
  |some p=>some (wc5 (Nat.blt p n) (.bmv p))
  |none=>none
 |.assign x=>match fd6 pr x with
  |some p=>some (wc5 (Nat.blt p n) (.bmv p))
  |none=>none
 |.makeMap t none=>match xf6 P t with
  |some _=>some (.mmake t)
  |none=>some .bad
 |.lookup t (.tmp m) y false=>match xf6 P t with
  |some q=>some (wc5 (Nat.blt m n&&ltO n y&&wf7 P q.el) (.mlook t (szT P q.kt) q.fl m (o7 y)))
  |none=>some .bad
 |.mapUpdate t (.tmp m) y z=>match xf6 P t with
  |some q=>some (wc5 (Nat.blt m n&&ltO n y&&ltO n z) (.mupd t (szT P q.kt) q.fl m (o7 y) (o7 z)))
  |none=>some .bad
 |.call c=>match c.callee with
  |.builtin .append=>match xf5 pr o with
   |true=>match c.args.toList,c.argTypes.toList with
    |[s,x],[t,u]=>match P.underlying t with
     |some (.slice e)=>some (wc5 (Nat.blt 0 (szT P e)&&Nat.beq t u) (.old n (.apre (szT P e) (o7 s) (o7 x))))
     |_=>some .bad
    |_,_=>some .bad
   |false=>none
  |.builtin .clear=>match c.args.toList,c.argTypes.toList with
   |[x],[t]=>match P.underlying t with
    |some (.slice e)=>match zeT P e with
     |some z=>some (wc5 (Nat.blt 0 (szT P e)) (.old n (.clr (szT P e) z (o7 x))))
     |none=>some .bad
    |_=>some .bad
   |_,_=>some .bad
  |_=>none
 |_=>none
structure Rd where
 nOut:Nat
 ps:List Nat
 asq:PC
 body:PC
abbrev HL:=List (Nat×Option (Nat×Bool))
def xf7:Option (Nat×Bool)->Option (Nat×Bool)->Bool
 |none,_=>true
 |some (d,b),some (d',b')=>Nat.beq d d'&&(b==b')
 |some _,none=>false
def xf8(S:HL)(t:Nat)(g:Option (Nat×Bool)):Bool:=S.any λp=>Nat.beq p.1 t&&xf7 p.2 g
def fd7(ops:Array Oper)(S:HL)(o:Oper):Option (List Operand):=match o.op with
 |.call c=>match c.callee with
  |.value (.tmp t)=>match la5 ops o with
   |some g=>if xf8 S t g then some c.args.toList else none
   |none=>none
  |_=>none
 |_=>none
def Kd5(ops:Array Oper)(S:HL)(o:Oper):Option (Nat×Option (Nat×Bool)):=match o.op,o.dst with
 |.move (.tmp t),some d=>match la5 ops o with
  |some g=>if xf8 S t g then some (d,g) else none
  |none=>none
 |_,_=>none
def gOk(n:Nat):Option (Nat×Bool)->Bool
 |none=>true
 |some (d,_)=>Nat.blt d n
def dOk(n:Nat):Option Nat->Bool
 |none=>true
 |some d=>Nat.blt d n
def rmL(S:HL)(dd:List Nat):HL:=S.filter λp=>!dd.contains p.1&&match p.2 with
 |none=>true
 |some (d,_)=>!dd.contains d
def rmD(S:HL):Option Nat->HL
 |none=>S
 |some d=>rmL S [d]
def U5(l:List Oper):List Nat:=l.filterMap (·.dst)
def pd0(p:Oper->Bool):List Oper->Nat
 |[]=>0
 |o::r=>match p o with
  |true=>pd0 p r+1
  |false=>0
def De2(P:Program)(n:Nat)(pr:List Nat)(ops:Array Oper)(S:HL)(o:Oper):Bool:=(cSp P n pr o).isNone&&(fd7 ops S o).isNone&&(Kd5 ops S o).isNone
def xf9(l r:HL):Bool:=l.all λp=>xf8 r p.1 p.2
def Ad7(P:Program)(n:Nat)(pr:List Nat)(yl:Option Rd)(S0:HL)(ops:Array Oper):Nat->List Oper->HL->PC
 |0,_,_=>.bad
 |_+1,[],S=>match xf9 S0 S with
  |true=>.skip
  |false=>.bad
 |f+1,o::r,S=>match fd7 ops S o with
  |some args=>match yl,la5 ops o with
   |some rd,some g=>match gOk n g&&dOk n o.dst&&args.all (ltO n)&&Nat.beq args.length rd.ps.length with
    |true=>.seq (.round o.dst g (args.map o7) n rd.nOut rd.ps rd.asq rd.body) (Ad7 P n pr yl S0 ops f r (rmD S o.dst))
    |false=>.bad
   |_,_=>.bad
  |none=>match Kd5 ops S o with
   |some (d,g)=>match Nat.blt d n with
    |true=>.seq (.mask n [d] (.ops [⟨some d,none,[],.mv (.c .unk)⟩])) (Ad7 P n pr yl S0 ops f r ((d,g)::rmL S [d]))
    |false=>.bad
   |none=>match cSp P n pr o with
    |some so=>match la5 ops o with
     |some g=>match gOk n g&&dOk n o.dst with
      |true=>.seq (.sp o.dst g so) (Ad7 P n pr yl S0 ops f r (rmD S o.dst))
      |false=>.bad
     |none=>.bad
    |none=>match Xc3 P ops (o::r.take (pd0 (De2 P n pr ops S) r)) with
     |some l=>.seq (.mask n (U5 (o::r.take (pd0 (De2 P n pr ops S) r))) (.ops l)) (Ad7 P n pr yl S0 ops f (r.drop (pd0 (De2 P n pr ops S) r)) (rmL S (U5 (o::r.take (pd0 (De2 P n pr ops S) r)))))
     |none=>.bad
def yf0(pr:List Nat)(ops:Array Oper):Bool:=ops.any λo=>match o.op with
 |.load _ x=>(fd6 pr x).isSome
 |.fieldAddr _ x _=>(fd6 pr x).isSome
 |_=>false
def Nf7(pr:List Nat)(ops:Array Oper):Bool:=ops.any λo=>match o.op with
 |.store _ x _=>(fd6 pr x).isSome
 |_=>false
def nf0(pr:List Nat)(o:Oper):Bool:=o.guard.isNone&&match o.op with
 |.load _ x=>(fd6 pr x).isSome
 |.fieldAddr _ x _=>(fd6 pr x).isSome
 |_=>false
def fe2(o:Oper):Option Nat:=match o.op with
 |.load _ (.tmp p)=>some p
 |.fieldAddr _ (.tmp p) _=>some p
 |_=>none
def Nf8(n:Nat):List Oper->Bool
 |[]=>true
 |o::r=>(match fe2 o,o.dst with
  |some p,some d=>Nat.blt d n&&!(U5 (o::r)).contains p&&!(U5 r).contains d
  |_,_=>false)&&Nf8 n r
def nf1(P:Program)(n:Nat)(pr:List Nat):List Oper->PC
 |[]=>.skip
 |o::r=>match cSp P n pr o with
  |some so=>.seq (.sp o.dst none so) (nf1 P n pr r)
  |none=>.bad
def bAt(pr:List Nat)(ops:Array Oper)(m:Nat)(j:Nat):Bool:=Nat.blt j m&&nf0 pr (opO ops j)
def Uc6(pr:List Nat)(ops:Array Oper)(m:Nat):List Oper:=(ops.toList.take m).filter (nf0 pr)
def Re9(n:Nat)(pr:List Nat)(ops:Array Oper):Bool :=
 Kd4 (bAt pr ops (Q1 ops ops.size)) (Q1 ops ops.size) ops&&Nf8 n (Uc6 pr ops (Q1 ops ops.size)) &&
 (Uc6 pr ops (Q1 ops ops.size)).all λo=>match fe2 o,o.dst with
  |some p,some d=>!(U5 (Xb5 (bAt pr ops (Q1 ops ops.size)) (Q1 ops ops.size) ops).toList).contains p&&!(U5 (Xb5 (bAt pr ops (Q1 ops ops.size)) (Q1 ops ops.size) ops).toList).contains d
  |_,_=>false
def Kd6:List Nat->PC
 |[]=>.skip
 |p::r=>.seq (.adopt p) (Kd6 r)
def Xf5(pr:List Nat)(l:List Oper):List Nat:=l.filterMap λo=>match o.op with
 |.alloc _=>match o.dst with
  |some p=>match pr.contains p with
   |true=>some p
   |false=>none
  |none=>none
 |_=>none
def Qa0(P:Program)(n:Nat)(pr:List Nat)(yl:Option Rd)(S0:HL)(kp:Nat->List Nat)(rf:Operand->Array Tmp->Code->Code->PC)(cur:Nat):Code->PC
 |.skip=>.skip
 |.region _ ops d=>match d with
  |false=>Ad7 P n pr yl S0 ops (ops.size+1) ops.toList S0
  |true=>match yf0 pr ops&&Nf6 ops with
   |true=>Ad7 P n pr yl S0 ops (ops.size+1) ops.toList S0
   |false=>match (yf0 pr ops||Nf7 pr ops)&&Re9 n pr ops with
    | true => .seq (nf1 P n pr (Uc6 pr ops (Q1 ops ops.size)))
      (.seq (.mask n (U5 (Xb5 (bAt pr ops (Q1 ops ops.size)) (Q1 ops ops.size) ops).toList) (bb6 P (Xb5 (bAt pr ops (Q1 ops ops.size)) (Q1 ops ops.size) ops)))
       (.seq (Kd6 (Xf5 pr (ops.toList.take (Q1 ops ops.size)))) (Ad7 P n pr yl S0 ops (ops.size+1) (ops.toList.drop (Q1 ops ops.size)) (rmL S0 (U5 ops.toList)))))
    |false=>match xf9 S0 (rmL S0 (U5 ops.toList)) with
     |true=>.mask n (U5 ops.toList) (bb6 P ops)
     |false=>.bad
 |.seq a b=>.seq (Qa0 P n pr yl S0 kp rf cur a) (Qa0 P n pr yl S0 kp rf cur b)
 |.cond c x y=>match ltO n c with
  |true=>.cond (o7 c) (Qa0 P n pr yl S0 kp rf cur x) (Qa0 P n pr yl S0 kp rf cur y)
  |false=>.bad
 |.block id c=>.block id (Qa0 P n pr yl S0 kp rf id c)
 |.loop c=>.loopM (kp cur) (Qa0 P n pr yl S0 kp rf cur c)
 |.label _=>.skip
 |.exit id=>.exit id
 |.ret=>.ret
 |.rangeFunc g ps asq body=>rf g ps asq body
 |_=>.bad
structure Fc3 where
 pr:List Nat
 kp:List (Nat×List Nat)
 fi:FuncId
 ki:List (Nat×List Nat)
def nf2(l:List (Nat×List Nat))(id:Nat):List Nat:=match l.find? λp=>Nat.beq p.1 id with
 |some p=>p.2
 |none=>[]
def fd8(_:Operand)(_:Array Tmp)(_ _:Code):PC:=.bad
def sg0(P:Program)(h:Fc3)(n:Nat)(ps:Array Tmp)(asq body:Code):Rd :=
 ⟨n,ps.toList,Qa0 P n h.pr none [] (nf2 h.kp) fd8 0 asq,Qa0 P n h.pr none [] (nf2 h.kp) fd8 0 body⟩
def Se0(P:Program)(h:Fc3)(fnI:Func)(cI:Code)(n:Nat)(g:Operand)(ps:Array Tmp)(asq body:Code):PC :=
 match ltO n g&&Nat.beq fnI.results.size 0&&ps.toList.all (λp=>Nat.blt p n) with
 |true=>.inner h.fi (o7 g) fnI.ntmps (Qa0 P fnI.ntmps [] (some (sg0 P h n ps asq body)) [(0,none)] (nf2 h.ki) fd8 0 cI)
 |false=>.bad
def xa9(P:Program)(h:Fc3)(fnI fn:Func):Option PFn :=
 match fn.body,fnI.body with
 |some c,some cI =>
  if fn.results.toList.all (ye3 P) then some ⟨fn.ntmps,fn.results.toList.map (Gd6 P),Qa0 P fn.ntmps h.pr none [] (nf2 h.kp) (Se0 P h fnI cI fn.ntmps) 0 c⟩ else none
 |_,_=>none
def De3(H:List c7):Bool:=List.rec (motive:=λ_=>Bool) true (λb _ ih=>Bool.rec (motive:=λ_=>Bool) ih false (I4 b)) H
def Ca0(E:Env)(fn:PFn)(args:List b7)(blks:List c7):DT (b7×List c7) :=
 .guard (Bool.and (De3 blks) (Nat.ble (len args) fn.ntmps)) ((M2 E (len blks) fn.body ⟨app args (List.replicate (fn.ntmps-len args) (.v (.tuple #[]))),blks⟩).bind λr =>
  match r.1 with
  |.exit _=>.fail
  |_=>match Hb0 (Hb5 (s5 (na6 r.2.H) r.2.a) (A2 r.2.H)) fn.res with
   |some l=>.guard (De3 (J6 r.2.H (len blks))) (Cc5 (len blks) (A2 r.2.H) (dc2 l))
   |none=>.fail)
section
variable{WB K:Nat->Prop}{J:List Value->World->Prop}{DF:List Deferred->Prop}{S:HL}{rv:Value}{ρ ρ0:Rho}{H H0 H':List c7}{F F0:Fz}{w w0 w':World}{W':Nat->Prop}{up:List Value}{E:Env}{a:List b7}{s s':St}{ac:Act}{x:b7}{o:Oper}{n:Nat}
def wc6(tmps:Array Value):Option (Nat×Bool)->Prop
 |none=>True
 |some (d,b)=>tmps[d]?=some (.bool b)
structure I3(P:Program)(WB K:Nat->Prop)(J:List Value->World->Prop)(n:Nat)(S:HL)(rv:Value)(DF:List Deferred->Prop)(ρ0:Rho)(H0:List c7)(F0:Fz)(w0:World)(s:St)(ac:Act)(w:World):Prop where
 inv:Kd0 P WB K J n ρ0 H0 F0 w0 s ac w
 held:∀p∈S,wc6 ac.tmps p.2->ac.tmps[p.1]?=some rv
 df:DF ac.defers
theorem wa6{b:Bool}{so:SP}(h:(Hb4 E a H (wc5 b so)).run=some (x,H')):b=true/\wc5 b so=so:=by
 cases b with
 |true=>exact⟨rfl,rfl⟩
 |false=>cases h
theorem yb2{pr:List Nat}{y:Operand}{p:Nat}(h:fd6 pr y=some p):y=.tmp p:=by
 unfold fd6 at h
 grind
theorem pd1{P:Program}{t:TypeId}{q:rg9}(h:xf6 P t=some q):P.underlying t=some (.map q.kt q.el)/\ka2 P 9 q.kt=some q.fl/\agT P q.kt=true/\Ec9 q.fl (szT P q.kt)=true:=by
 unfold xf6 at h
 grind
theorem pc9{k:Nat}(h:(!Nat.beq k 0)=true):k≠0:=λe=>by subst e;cases h
theorem VR.arel(hv:VR ρ H F w a (ac.tmps.toList++up))(hn:ac.tmps.size=n):Ia4 ρ (A2 H) F w (s5 (na6 H) (J6 a n)) ac.tmps:=by
 have hl:=hv.1;have hsz:ac.tmps.toList.length=ac.tmps.size:=Array.length_toList;rw[Qdc] at hl;rw[s8,J7];refine⟨by rw[List.length_map,List.length_take];omega,λi x x' hx hx'=>?_⟩
 rw[Qbe] at hx;have hi:i<n:=hn ▸ (Qak.1 hx').1;rw[Qap,if_pos hi] at hx;cases hy:a[i]? with
 |none=>rw[hy] at hx;cases hx
 |some y =>
  rw[hy] at hx;injection hx with hx;subst hx;refine ee8 (hv.2 i y x' hy ?_)
  grind
theorem yf1{px:PO}{ds:List Deferred}(hC:C2 E.P WB K J ρ0 H0 F0 w0 H ds w ρ F W' up)(hJ:Ec6 K J)
  (hop:∀H1,(evalOp E (s5 (na6 H) (J6 a n)) (A2 H) px).run=some (x,H1)->s4 E.P o ac w (U3 W' ρ (A2 H) F w x H1)) (he:(Hb4 E a H (.old n px)).run=some (x,H')):s4 E.P o ac w (jc5 E.P WB K J ρ0 H0 F0 w0 ρ H F w up ds x H'):=by
 obtain⟨⟨x1,H1⟩,h1,h2⟩:=DT.run_bind_some (show ((evalOp E (s5 (na6 H) (J6 a n)) (A2 H) px).bind λr=>.guard (Ac3 H r.2) (.ret (r.1,F8 H r.2))).run=some (x,H') from he)
 obtain⟨hok,h2⟩:=DT.run_guard_some h2;have h2:some (x1,F8 H H1)=some (x,H'):=h2;injection h2 with h2;injection h2 with e1 e2;subst e1 e2
 intro next Q hp;refine hop H1 h1 next Q λx' w' ⟨ρ',F',k1,k2,k3⟩=>hp x' w' ?_
 obtain⟨c1,c2⟩:=hC.step hJ k1 hok k2;exact⟨_,F',W',c1,c2,.w (Re4 k1 hok k3)⟩
theorem Xf6{α:Type}{l:Array α}{a b:α}(h:l.toList=[a,b]):l=#[a,b]:=by
 grind
theorem Xf7{α:Type}{l:Array α}{a:α}(h:l.toList=[a]):l=#[a]:=by
 grind
theorem sg1{pr:List Nat}{so:SP}{ds:List Deferred}(hC:C2 E.P WB K J ρ0 H0 F0 w0 H ds w ρ F W' up)(hJ:Ec6 K J)(hv:VR ρ H F w a (ac.tmps.toList++up))(hn:ac.tmps.size=n)(hG:GOk E F w)
  (hs:cSp E.P n pr o=some so) (he:(Hb4 E a H so).run=some (x,H')):s4 E.P o ac w (jc5 E.P WB K J ρ0 H0 F0 w0 ρ H F w up ds x H'):=by
 unfold cSp at hs
 split at hs
 ·rename_i t ho
  split at hs
  ·split at hs
   ·rename_i z hz;injection hs with hs;subst hs
    exact mf1 hC hJ ho hz he
   ·injection hs with hs;subst hs;cases he
  ·cases hs
 ·rename_i t y ho
  split at hs
  ·injection hs with hs;subst hs
   obtain⟨h1,h2⟩:=wa6 he;rw[h2] at he;exact Nf2 hC hJ hv hn hG ho h1 he
  ·cases hs
 ·rename_i t y ho
  split at hs
  ·rename_i p hp;injection hs with hs;subst hs
   obtain⟨h1,h2⟩:=wa6 he;rw[h2] at he;rw[Qas] at h1;rw[yb2 hp] at ho;exact wf3 hC hv hn hG ho h1.1 (λe=>by rw[e] at h1;cases h1.2) he
  ·cases hs
 ·rename_i t y z ho
  split at hs
  ·rename_i p hp;injection hs with hs;subst hs
   obtain⟨h1,h2⟩:=wa6 he;rw[h2] at he;rw[Qas,Qas] at h1;rw[yb2 hp] at ho;exact mf2 hC hJ hv hn hG ho h1.1.1 h1.1.2 (pc9 h1.2) he
  ·cases hs
 ·rename_i st y f ho
  split at hs
  ·rename_i p hp
   split at hs
   ·rename_i fs hu
    split at hs
    ·rename_i fd hf;injection hs with hs;subst hs
     obtain⟨h1,h2⟩:=wa6 he;rw[h2] at he;rw[Qas] at h1;rw[yb2 hp] at ho;exact Nf3 hC hv hn hG ho h1.1 hu hf (pc9 h1.2) he
    ·injection hs with hs;subst hs;cases he
   ·injection hs with hs;subst hs;cases he
  ·cases hs
 ·rename_i y ho
  split at hs
  ·rename_i p hp;injection hs with hs;subst hs
   obtain⟨h1,h2⟩:=wa6 he;rw[h2] at he;rw[yb2 hp] at ho;exact wf4 hC hv hn hG (.inl ho) h1 he
  ·cases hs
 ·rename_i y ho
  split at hs
  ·rename_i p hp;injection hs with hs;subst hs
   obtain⟨h1,h2⟩:=wa6 he;rw[h2] at he;rw[yb2 hp] at ho;exact wf4 hC hv hn hG (.inr ho) h1 he
  ·cases hs
 ·rename_i t ho
  split at hs
  ·rename_i q hq;injection hs with hs;subst hs
   obtain⟨h1,h2,_,_⟩:=pd1 hq;exact xf0 hC hJ ho h1 h2 he
  ·injection hs with hs;subst hs;cases he
 ·rename_i t m y ho
  split at hs
  ·rename_i q hq;injection hs with hs;subst hs
   obtain⟨h1,h2,h3,h4⟩:=pd1 hq;obtain⟨k1,k2⟩:=wa6 he;rw[k2] at he;rw[Qas,Qas] at k1;exact xf1 hC hv hn hG ho k1.1.1 k1.1.2 h1 h3 h2 h4 k1.2 he
  ·injection hs with hs;subst hs;cases he
 ·rename_i t m y z ho
  split at hs
  ·rename_i q hq;injection hs with hs;subst hs
   obtain⟨h1,h2,h3,h4⟩:=pd1 hq;obtain⟨k1,k2⟩:=wa6 he;rw[k2] at he;rw[Qas,Qas] at k1;exact Nf4 hC hJ hv hn hG ho k1.1.1 k1.1.2 k1.2 h1 h3 h2 h4 he
  ·injection hs with hs;subst hs;cases he
 ·rename_i c ho
  split at hs
  ·rename_i hcb
   split at hs
   ·split at hs
    ·rename_i y z t u hargs htys
     split at hs
     ·rename_i e hu;injection hs with hs;subst hs
      obtain⟨k1,k2⟩:=wa6 he;rw[k2] at he;rw[Qas,Qch] at k1;have htu:=Qad k1.2;subst htu;obtain⟨ti,hi,hi0,hi1⟩:=dd4 (Nat.ne_of_gt k1.1);refine yf1 hC hJ (λH1 h1=>?_) he
      exact Hd0 (hv.arel hn) hC.hrel hG ho hcb (Xf6 hargs) (Xf6 htys) hu hi (by omega) h1
     ·injection hs with hs;subst hs;cases he
    ·injection hs with hs;subst hs;cases he
   ·cases hs
  ·rename_i hcb
   split at hs
   ·rename_i y t hargs htys
    split at hs
    ·rename_i e hu
     split at hs
     ·rename_i z hz;injection hs with hs;subst hs
      obtain⟨k1,k2⟩:=wa6 he;rw[k2] at he;rw[Qch] at k1;refine yf1 hC hJ (λH1 h1=>?_) he
      exact ce8 (hv.arel hn) hC.hrel hG ho hcb (Xf7 hargs) (Xf7 htys) hu hz k1 h1
     ·injection hs with hs;subst hs;cases he
    ·injection hs with hs;subst hs;cases he
   ·injection hs with hs;subst hs;cases he
  ·cases hs
 ·cases hs
theorem VR.putA(hv:VR ρ H F w a (ac.tmps.toList++up))(hn:ac.tmps.size=n){dst:Option Nat}(hd:dOk n dst=true){x':Value}(hx:XW ρ H F w x x'):VR ρ H F w (Ev.putA a dst x) ((ac.put dst x').tmps.toList++up):=by
 rw[Pc0];cases dst with
 |none=>exact hv
 |some d =>
  have hd:d<n:=by have:=hd;unfold dOk at this;rwa [Qch] at this
  have e:(ac.put (some d) x').tmps.toList++up=(ac.tmps.toList++up).set d x':=by
   rw[List.set_append_left _ _ (by rw[Array.length_toList];omega)]
   simp[Act.put]
  rw[e];refine⟨by simp only[List.length_set];exact hv.1,λi y y' hy hy'=>?_⟩
  rw[List.getElem?_set] at hy hy';by_cases hi:d=i
  ·simp_all
  ·rw[if_neg hi] at hy hy';exact hv.2 i y y' hy hy'
theorem VR.tr{vs:List Value}{ρ':Rho}{F':Fz}(hv:VR ρ H F w a vs)(ht:Tr ρ H F w ρ' H' F' w'):VR ρ' H' F' w' a vs:=⟨hv.1,λi x x' hx hx'=>ht _ _ (hv.2 i x x' hx hx')⟩
theorem VR.at(hv:VR ρ H F w a (ac.tmps.toList++up))(hn:ac.tmps.size=n){t:Nat}(ht:t<n):∃x',ac.tmps[t]?=some x'/\XW ρ H F w (c9 E a (.t t)) x':=by
 have hl:=hv.1;have hsz:ac.tmps.toList.length=ac.tmps.size:=Array.length_toList;rw[Qdc] at hl;have h1:t<a.length:=by omega
 have h2:t<ac.tmps.size:=by omega
 refine⟨ac.tmps[t],by simp[h2],?_⟩
 rw[Mb7,Qaa h1];refine hv.2 t _ _ (Qaa h1) ?_
 simp_all
theorem Uc7{ops:Array Oper}{g:Option (Nat×Bool)}{d:St->DT St}(hg:la5 ops o=some g)(hgn:gOk n g=true)(hv:VR ρ H F w s.a (ac.tmps.toList++up))(hn:ac.tmps.size=n)(he:(Dd9 E s o.dst g d).run=some s') :
  (Region.wanted o (yielded ops ac.tmps)=true/\(d s).run=some s')\/(Region.wanted o (yielded ops ac.tmps)=false/\s'=⟨putA s.a o.dst (.v (.tuple #[])),s.H⟩):=by
 unfold la5 at hg;unfold Region.wanted;cases hgo:o.guard with
 |none =>
  simp only[hgo] at hg ⊢;injection hg with hg;subst hg;exact .inl ⟨trivial,he⟩
 |some jw =>
  obtain⟨j,want⟩:=jw;simp only[hgo] at hg ⊢;cases hj:ops[j]? with
  |none=>simp[hj] at hg
  |some oj =>
  simp only[hj] at hg;cases hd:oj.dst with
  |none=>simp[hd] at hg
  |some dd =>
  simp only[hd] at hg;injection hg with hg;subst hg;have hdn:dd<n:=by have:=hgn;unfold gOk at this;rwa [Qch] at this
  obtain⟨u',hu1,hu2⟩:=hv.at (E:=E) hn hdn;have he':(match c9 E s.a (.t dd) with
   | .v (.bool b) => Bool.rec (motive := fun _ => DT St)
     (.ite b (.ret ⟨putA (setAt s.a dd (.v (.bool true))) o.dst (.v (.tuple #[])),s.H⟩) (d ⟨setAt s.a dd (.v (.bool false)),s.H⟩))
     (.ite b (d ⟨setAt s.a dd (.v (.bool true)),s.H⟩) (.ret ⟨putA (setAt s.a dd (.v (.bool false))) o.dst (.v (.tuple #[])),s.H⟩)) want
   |.v (.tuple _)=>.ret ⟨putA s.a o.dst (.v (.tuple #[])),s.H⟩
   |_=>.fail).run=some s':=he
  have hset:∀b,c9 E s.a (.t dd)=.v (.bool b)->setAt s.a dd (.v (.bool b))=s.a:=λb h=>Ae9 (E:=E) (by simp) h
  revert he' hu2 hset
  generalize c9 E s.a (.t dd)=u;intro hu2 he' hset
  split at he'
  ·rename_i b;have hb:=mf3 hu2;subst hb;rw[oc9 hj hd hu1];have hs:=hset b rfl;cases want<;>cases b
   ·rw[hs] at he';exact .inl ⟨rfl,he'⟩
   ·refine .inr ⟨rfl,?_⟩;rw[hs] at he';exact (Qag he').symm
   ·refine .inr ⟨rfl,?_⟩;rw[hs] at he';exact (Qag he').symm
   ·rw[hs] at he';exact .inl ⟨rfl,he'⟩
  ·rename_i vs;have hb:=mf3 hu2;subst hb;rw[dc5 hj hd hu1]
   simp_all
  ·cases he'
theorem fd9{a a':Array Value}{dd:List Nat}(h:∀p∈S,wc6 a p.2->a[p.1]?=some rv)(hs:∀t,¬ t∈dd->a'[t]?=a[t]?):∀p∈rmL S dd,wc6 a' p.2->a'[p.1]?=some rv:=by
 intro p hp hg;simp only[rmL,List.mem_filter,Qas] at hp;obtain⟨h1,h2,h3⟩:=hp;rw[hs p.1 (by simpa using h2)]
 refine h p h1 ?_;obtain⟨t,g⟩:=p;cases g with
 |none=>trivial
 |some q =>
  obtain⟨d,b⟩:=q;have h3:¬ d∈dd:=by simpa using h3
  exact (hs d h3).symm.trans hg
theorem Sb0{dst:Option Nat}{v:Value}(h:∀p∈S,wc6 ac.tmps p.2->ac.tmps[p.1]?=some rv):∀p∈rmD S dst,wc6 (ac.put dst v).tmps p.2->(ac.put dst v).tmps[p.1]?=some rv:=by
 cases dst with
 |none=>exact h
 |some d=>exact fd9 h λt ht=>jc4 λe=>by injection e with e;subst e;simp at ht
theorem Se1{tmps:Array Value}{g g':Option (Nat×Bool)}(h:xf7 g g'=true)(hg:wc6 tmps g'):wc6 tmps g:=by
 cases g with
 |none=>trivial
 |some q =>
  obtain⟨d,b⟩:=q;cases g' with
  |none=>cases h
  |some q' =>
   obtain⟨d',b'⟩:=q';simp only[xf7,Qas,beq_iff_eq] at h
   simp_all
theorem pd2{tmps:Array Value}{t:Nat}{g:Option (Nat×Bool)}(h:∀p∈S,wc6 tmps p.2->tmps[p.1]?=some rv)(hs:xf8 S t g=true)(hg:wc6 tmps g):tmps[t]?=some rv:=by
 simp only[xf8,List.any_eq_true,Qas] at hs;obtain⟨p,h1,h2,h3⟩:=hs
 have:=h p h1 (Se1 h3 hg)
 simp_all
theorem Fc4{ops:Array Oper}{o:Oper}{g:Option (Nat×Bool)}{tmps:Array Value}(hg:la5 ops o=some g):Region.wanted o (yielded ops tmps)=true↔wc6 tmps g:=by
 unfold la5 at hg;unfold Region.wanted;cases hgo:o.guard with
 |none =>
  simp only[hgo] at hg ⊢;injection hg with hg;subst hg;exact⟨λ_=>trivial,λ_=>trivial⟩
 |some jw =>
  obtain⟨j,want⟩:=jw;simp only[hgo] at hg ⊢;cases hj:ops[j]? with
  |none=>simp[hj] at hg
  |some oj =>
  simp only[hj] at hg;cases hd:oj.dst with
  |none=>simp[hd] at hg
  |some d =>
  simp only[hd] at hg;injection hg with hg;subst hg;simp only[yielded,hj,Option.bind_some,hd,wc6]
  grind
theorem gg7{Fe:Fence}{m i:Nat}{pr:List Nat}{so:SP}{g:Option (Nat×Bool)}{ops:Array Oper}{rest:List Nat}{Q:Exit->Act->World->Prop}(hF:FW Fe)(hG0:GOk E F0 w0)(hJ:Ec6 K J)(hi:ops[i]?=some o)
  (hs:cSp E.P n pr o=some so) (hg:la5 ops o=some g) (hgn:gOk n g=true) (hdn:dOk n o.dst=true) (hI:I3 E.P WB K J n S rv DF ρ0 H0 F0 w0 s ac w) (he:(Oe2 E s o.dst g so).run=some s')
  (hQ:∀ac' w',I3 E.P WB K J n (rmD S o.dst) rv DF ρ0 H0 F0 w0 s' ac' w'->wpOpsIn Fe m E.P ops Q rest ac' w'):wpOpsIn Fe m E.P ops Q (i::rest) ac w:=by
 obtain⟨⟨ρ,F,W',up,hI2⟩,hheld,hdf⟩:=hI;simp only[wpOpsIn,hi]
 rcases Uc7 hg hgn hI2.vals hI2.size he with⟨hw,he⟩|⟨hw,rfl⟩
 ·rw[if_pos hw];obtain⟨⟨x,H'⟩,h1,h2⟩:=DT.run_bind_some he;have h2:some (⟨putA s.a o.dst x,H'⟩:St)=some s':=h2;injection h2 with h2;subst h2;have hop:=sg1 (ac:={ ac with defers:=[] }) (ds:=ac.defers) hI2.core hJ hI2.vals hI2.size (hG0.adv hI2.core.adv) hs h1
  refine hop.inAny hF m _ _ λx' w' hp=>?_
  obtain⟨ρ',F',W'',c1,c2,c3⟩:=hp;exact hQ _ _ ⟨⟨ρ',F',W'',up,by rw[E2];exact c1,(hI2.vals.tr c2).putA hI2.size hdn c3,(ia7 _ _).trans hI2.size⟩,Sb0 hheld,by rw[E2];exact hdf⟩
 ·rw[if_neg (by simp[hw])]
  refine⟨λf _=>hF.fn f,hQ _ _ ⟨⟨ρ,F,W',up,by rw[E2];exact hI2.core,hI2.vals.putA hI2.size hdn (.w (.ofv _)),(ia7 _ _).trans hI2.size⟩,Sb0 hheld,by rw[E2];exact hdf⟩⟩
theorem yf2{Fe:Fence}{m i d k:Nat}{g:Option (Nat×Bool)}{ops:Array Oper}{rest:List Nat}{Q:Exit->Act->World->Prop}{xx:l4}(hF:FW Fe)(hG0:GOk E F0 w0)(hcalls:∀f,l8 E.P E.G f (E.call f))(hJ:Ec6 K J)(hi:ops[i]?=some o)
  (hc:Kd5 ops S o=some (d,g)) (hdn:d<n) (hI:I3 E.P WB K J n S rv DF ρ0 H0 F0 w0 s ac w) (he:(M2 E k (.mask n [d] (.ops [⟨some d,none,[],.mv (.c .unk)⟩])) s).run=some (xx,s'))
  (hQ:xx=.normal->∀ac' w',I3 E.P WB K J n ((d,g)::rmL S [d]) rv DF ρ0 H0 F0 w0 s' ac' w'->wpOpsIn Fe m E.P ops Q rest ac' w'):wpOpsIn Fe m E.P ops Q (i::rest) ac w:=by
 obtain⟨⟨ρ,F,W',up,hI2⟩,hheld,hdf⟩:=hI;unfold Kd5 at hc
 split at hc
 case h_2=>cases hc
 rename_i t d' ho hd
 split at hc
 case h_2=>cases hc
 rename_i g' hg
 split at hc
 case isFalse=>cases hc
 rename_i hS;injection hc with hc;injection hc with e1 e2;subst e1 e2;simp only[wpOpsIn,hi];have he':((M2 E k (.ops [⟨some d',none,[],.mv (.c .unk)⟩]) ⟨s5 (na6 s.H) (J6 s.a n),A2 s.H⟩).bind λr=>.guard (Ac3 s.H r.2.H) (.ret (r.1,⟨ta4 [d'] s.a r.2.a 0,F8 s.H r.2.H⟩))).run=some (xx,s'):=he
 obtain⟨⟨x1,s1⟩,h1,h2⟩:=DT.run_bind_some he';obtain⟨hok,h2⟩:=DT.run_guard_some h2;have h1:some (l4.normal,(⟨putA (s5 (na6 s.H) (J6 s.a n)) (some d') .unk,A2 s.H⟩:St))=some (x1,s1):=h1;injection h1 with h1;injection h1 with e1 e2;subst e1 e2
 have h2:some (l4.normal,(⟨ta4 [d'] s.a (putA (s5 (na6 s.H) (J6 s.a n)) (some d') .unk) 0,F8 s.H (A2 s.H)⟩:St))=some (xx,s'):=h2;injection h2 with h2;injection h2 with e1 e2;subst e1 e2
 obtain⟨c1,c2⟩:=hI2.core.step hJ .refl hok hI2.core.hrel;have hvr:∀v,VR (ρsp s.H ρ ρ) (F8 s.H (A2 s.H)) F w (ta4 [d'] s.a (putA (s5 (na6 s.H) (J6 s.a n)) (some d') .unk) 0) ((ac.put o.dst v).tmps.toList++up):=λv=>by
  refine⟨by rw[Ec8];have:=hI2.vals.1;rw[Qdc,Array.length_toList] at this ⊢;rw[ia7];exact this,λi y y' hy hy'=>?_⟩
  rw[Ec7] at hy;cases hz:s.a[i]? with
  |none=>rw[hz] at hy;cases hy
  |some z =>
   rw[hz] at hy;injection hy with hy;rw[Qar] at hy;by_cases hid:i=d'
   ·subst hid;have hm:Hb1 i [i]=true:=(Kd1 _ _).2 (by simp)
    rw[hm] at hy;have hy:((putA (s5 (na6 s.H) (J6 s.a n)) (some i) .unk)[i]?).getD .unk=y:=hy;rw[Pc0] at hy;simp only[List.getElem?_set] at hy
    have:y=.unk:=by
     rw[<- hy];simp only[if_true]
     split<;>rfl
    subst this;exact .w (.unk _)
   ·have hm : Hb1 i [d'] = false := by
     cases h:Hb1 i [d'] with
     |false=>rfl
     |true=>exact absurd (by simpa using (Kd1 _ _).1 h) hid
    rw[hm] at hy;have hy:z=y:=hy;subst hy;refine c2 _ _ (hI2.vals.2 i z y' hz ?_);rw[hd] at hy';simpa [Act.put,List.getElem?_append,Qeb,Ne.symm hid] using hy'
 have hfin:∀v,(Region.wanted o (yielded ops ac.tmps)=true->v=rv)->(Region.wanted o (yielded ops ac.tmps)=false->v=undef)->wpOpsIn Fe m E.P ops Q rest (ac.put o.dst v) w:=λv hv1 hv2=>by
  refine hQ rfl _ _ ⟨⟨_,F,W',up,by rw[E2];exact c1,hvr v,(ia7 _ _).trans hI2.size⟩,λp hp hgp=>?_,by rw[E2];exact hdf⟩
  have hlt:d'<ac.tmps.size:=Nat.lt_of_lt_of_eq hdn hI2.size.symm;have hset:(ac.put (some d') v).tmps[d']?=some v:=by
   show (ac.tmps.setIfInBounds d' v)[d']?=some v;exact Array.getElem?_setIfInBounds_self_of_lt hlt
  rcases Qbh.1 hp with rfl|hp
  ·cases hw:Region.wanted o (yielded ops ac.tmps) with
   |true=>rw[hd,<- hv1 hw];exact hset
   |false =>
    exfalso;have hng:¬ wc6 ac.tmps g':=λh=>by rw[(Fc4 hg).2 h] at hw;cases hw
    cases g' with
    |none=>exact hng trivial
    |some q =>
     obtain⟨dg,b⟩:=q;have hgq:(ac.put o.dst v).tmps[dg]?=some (.bool b):=hgp;by_cases he:dg=d'
     ·subst he;rw[hd,hset,hv2 hw] at hgq;injection hgq with hgq;cases hgq
     ·rw[jc4 (λe=>he (by rw[hd] at e;injection e with e;exact e.symm))] at hgq
      exact hng hgq
  ·have:=Sb0 (dst:=some d') (v:=v) hheld p hp
   rw[hd] at hgp ⊢;exact this hgp
 by_cases hw:Region.wanted o (yielded ops ac.tmps)=true
 ·rw[if_pos hw];have ht:=pd2 hheld hS ((Fc4 hg).1 hw);have hop:s4 E.P o { ac with defers:=[] } w (λv w'=>v=rv/\w'=w):=by
   have hev:({ ac with defers:=[] }:Act).eval (.tmp t)=rv:=by
    show ac.tmps.getD t undef=rv
    simp_all
   exact .value (x':=rv) (w':=w) (by simp[execOp,ho,hev]) ⟨rfl,rfl⟩
  refine hop.inAny hF m _ _ λv w' hp=>?_
  simp_all
 ·rw[if_neg hw];exact⟨λf _=>hF.fn f,hfin _ (λh=>absurd h hw) λ_=>rfl⟩
end
section
variable{P:Program}{k:Nat}{WB K:Nat->Prop}{J:List Value->World->Prop}{DF:List Deferred->Prop}{S:HL}{rv:Value}{ρ ρ0:Rho}{H H0 H2:List c7}{F F0:Fz}{w w0:World}{W':Nat->Prop}{up:List Value}{E:Env}{R:List Nat}{n:Nat}
def yf3(H:List c7)(x:b7)(r:List Nat):List Nat:=match x with
 |.ptr id _ _ g=>match blkAt H id g with
  |some _=>(Sa4 r id).2
  |none=>r
 |.sl id _ _ g=>match blkAt H id g with
  |some _=>(Sa4 r id).2
  |none=>r
 |_=>r
theorem yf4(H:List c7)(x:b7)(r:List Nat)(hr:TOk k r):TOk k (yf3 H x r)/\TLe r (yf3 H x r):=by
 have step:∀id,TOk k (Sa4 r id).2/\TLe r (Sa4 r id).2:=λid=>by
  obtain⟨h1,h2,_⟩:=hr.idx (id:=id) (j:=(Sa4 r id).1) (r:=(Sa4 r id).2) rfl;exact⟨h1,h2⟩
 unfold yf3;split
 ·split
  ·exact step _
  ·exact⟨hr,.refl _⟩
 ·split
  ·exact step _
  ·exact⟨hr,.refl _⟩
 ·exact⟨hr,.refl _⟩
theorem De4(H:List c7):∀(cs:List b7) (r:List Nat),TOk k r->TOk k (Ye6 H cs r)/\TLe r (Ye6 H cs r)
 |[],r,hr=>⟨hr,.refl _⟩
 |x::cs,r,hr=>by
  have hx:=yf4 H x r hr;obtain⟨h1,h2⟩:=De4 H cs _ hx.1;exact⟨h1,hx.2.trans h2⟩
def yf5(H:List c7)(id:Nat)(r:List Nat):List Nat:=match nth H id with
 |some b=>match I4 b&&Nat.beq b.et 0 with
  |true=>Ye6 H (c8 b.elems 0) r
  |false=>r
 |none=>r
theorem yf6(H:List c7)(id:Nat)(r:List Nat)(hr:TOk k r):TOk k (yf5 H id r)/\TLe r (yf5 H id r):=by
 unfold yf5;split
 ·split
  ·exact De4 H _ r hr
  ·exact⟨hr,.refl _⟩
 ·exact⟨hr,.refl _⟩
theorem De5(H:List c7):∀(ids:List Nat) (r:List Nat),TOk k r->TOk k (ce0 H ids r)/\TLe r (ce0 H ids r)
 |[],r,hr=>⟨hr,.refl _⟩
 |id::ids,r,hr=>by
  have hx:=yf6 H id r hr;obtain⟨h1,h2⟩:=De5 H ids _ hx.1;exact⟨h1,hx.2.trans h2⟩
def af9(b:c7):c7:=Bool.rec (motive:=λ_=>c7) b { b with dead:=true } (I4 b)
theorem pd3(H:List c7):A2 H=H.map af9:=Rb9 H
theorem qc0:∀{R:List Nat} {j:Nat} {H2:List c7},eb4 k H j R=some H2->eb4 k (A2 H) j R=some (A2 H2)
 |[],j,H2,h=>by
  simp only[eb4] at h ⊢;injection h with h;subst h;rfl
 |id::R,j,H2,h=>by
  simp only[eb4,F7] at h ⊢;cases hb:H[id]? with
  |none=>simp[hb] at h
  |some b =>
  simp only[hb] at h;cases hr:eb4 k H (j+1) R with
  |none=>simp[hr] at h
  |some l =>
  simp only[hr] at h;injection h with h;subst h;have e:(A2 H)[id]?=some (af9 b):=by rw[pd3,Qbe,hb];rfl
  rw[e,qc0 hr];simp only[pd3,Qbp];congr 2;unfold af9;cases Nat.blt j k<;>cases hs:I4 b<;>simp[I4] at hs ⊢<;>simp[hs]
theorem Nf9(x:b7):TC k H R x (sf6 k H R x):=by
 unfold sf6;split
 ·rename_i id i c g;split
  ·rename_i b hb;split
   ·rename_i j hj
    have:=(Mb8 R 0 id j hj).2
    exact .ptr id i c g j b hb (by simpa using this)
   ·exact .unk _
  ·exact .unk _
 ·rename_i id off n g;split
  ·rename_i b hb;split
   ·rename_i j hj
    have:=(Mb8 R 0 id j hj).2
    exact .sl id off n g j b hb (by simpa using this)
   ·exact .unk _
  ·exact .unk _
 ·rename_i h1 h2;refine .same x ?_
  simp_all
theorem Fd0{x z:b7}{x':Value}(h:TC k H R x z)(hx:ea9 ρ (A2 H) F w x x'):TC k (A2 H) R x z:=by
 cases h with
 |unk=>exact .unk _
 |ptr id i c g j b hb hj =>
  obtain⟨hb1,hd1,hg1⟩:=H4 hb;obtain⟨ad,b2,e,m1,m2,m3,m4⟩:=Za9 (.val (.cell hx));obtain⟨n1,n2⟩:=la6 m1 m2
  have:b2=b:=Qag (n1.symm.trans hb1)
  subst this;exact .ptr id i c g j b2 (by unfold blkAt;simp only[F7,m1,m2,hg1];simp) hj
 |sl id off n g j b hb hj =>
  obtain⟨hb1,hd1,hg1⟩:=H4 hb;obtain⟨ad,cap,b2,e,m1,m2,m3,_⟩:=lb3 (.val (.cell hx));obtain⟨n1,n2⟩:=la6 m1 m2
  have:b2=b:=Qag (n1.symm.trans hb1)
  subst this;exact .sl id off n g j b2 (by unfold blkAt;simp only[F7,m1,m2,hg1];simp) hj
 |same x h=>exact .same x h
theorem bf0{x z:b7}{x':Value}(h:TV k H R x z)(hx:ra2 ρ (A2 H) F w x x'):TV k (A2 H) R x z:=by
 cases h with
 |cell hb h =>
  cases hx with
  |cell hx=>exact .cell hb (Fd0 h hx)
  |_=>cases hb
 |agg cs ds hl h =>
  obtain⟨vs,e,hl2,h2⟩:=Ja5 (.val hx);refine .agg cs ds hl λi x z hx hz=>?_
  have hi:i<vs.size:=hl2 ▸ (Qab.1 hx).1;exact Fd0 (h i x z hx hz) (h2 i x _ hx (Qac hi))
 |fn f cs ds hl h =>
  obtain⟨vs,e,hl2,h2⟩:=dc3 (.val hx);refine .fn f cs ds hl λi x z hx hz=>?_
  have hi:i<vs.size:=hl2 ▸ (Qab.1 hx).1;exact Fd0 (h i x z hx hz) (h2 i x _ hx (Qac hi))
 |tup l=>exact .tup l
theorem Of0{x z:b7}{x':Value}(h:TW k H R x z)(hx:K8 ρ (A2 H) F w x x'):TW k (A2 H) R x z:=by
 cases h with
 |val hn h =>
  cases hx with
  |val hx=>exact .val hn (bf0 h hx)
  |tup cs vs hl h2=>exact absurd rfl (hn cs)
 |tup cs ds hl h =>
  obtain⟨vs,e,hl2,h2⟩:=le7 hx;refine .tup cs ds hl λi x z hx hz=>?_
  have hi:i<vs.size:=hl2 ▸ (Qab.1 hx).1;exact bf0 (h i x z hx hz) (h2 i x _ hx (Qac hi))
theorem fe3{b:c7}(h:I4 b=false):pb0 k H R b=b:=by unfold pb0;rw[h];rfl
theorem qc1(b:c7):(pb0 k H R b).et=b.et/\(pb0 k H R b).es=b.es/\(pb0 k H R b).dead=b.dead/\(pb0 k H R b).g=b.g/\(pb0 k H R b).elems.length=b.elems.length/\I4 (pb0 k H R b)=I4 b:=by
 unfold pb0;cases I4 b&&Nat.beq b.et 0
 ·simp_all
 ·refine⟨rfl,rfl,rfl,rfl,by simp[s8],rfl⟩
section
variable(hR:TOk k R)(hb:eb4 k H 0 R=some H2)
include hR hb
theorem oe8{j:Nat}{c:c7}(hc:(s5 (pb0 k H R) H2)[j]?=some c):∃id b,R[j]?=some id/\(R[j]?).getD 0=id/\H[id]?=some b/\c=pb0 k H R (reG k j b):=by
 rw[s8,Qbe] at hc;cases h:H2[j]? with
 |none=>rw[h] at hc;cases hc
 |some c2 =>
  rw[h] at hc;injection hc with hc;obtain⟨id,b,h1,h2,h3,h4⟩:=dd6 hb h
  simp_all
theorem yf7{j id:Nat}{b:c7}(hj:R[j]?=some id)(hid:H[id]?=some b):(s5 (pb0 k H R) H2)[j]?=some (pb0 k H R (reG k j b)):=by
 obtain⟨_,hat⟩:=Dc2 hb;obtain⟨b',h1,h2⟩:=hat j id hj
 have:b'=b:=Qag (h1.symm.trans hid)
 subst this;rw[Qar] at h2;rw[s8,Qbe,h2];rfl
theorem Kd7(j:Nat)(b:c7):I4 (reG k j b)=I4 b:=by unfold I4;rw[Rb5]
theorem fe4:ee1 (λj=>ρ ((R[j]?).getD 0)) (A2 H2) (λj=>ρ ((R[j]?).getD 0)) (A2 (s5 (pb0 k H R) H2)):=λj b hb' hd=>by
 obtain⟨h1,h2⟩:=la6 hb' hd;refine⟨b,ga5 ?_ h2,hd,Qaf _,λ_=>⟨rfl,rfl,Qaf _⟩⟩
 rw[s8,Qbe,h1];simp[fe3 h2]
theorem sg2{x z:b7}{x':Value}(h:TC k H R x z)(hx:ea9 ρ (A2 H) F w x x'):ea9 (λj=>ρ ((R[j]?).getD 0)) (A2 (s5 (pb0 k H R) H2)) F w z x' :=
 (Oc9 (qc0 hb) (Fd0 h hx) hx).carry (fe4 hR hb) (λ_ _ h=>h) (λ_ _ _=>rfl)
theorem Xf8{x z:b7}{x':Value}(h:TW k H R x z)(hx:K8 ρ (A2 H) F w x x'):K8 (λj=>ρ ((R[j]?).getD 0)) (A2 (s5 (pb0 k H R) H2)) F w z x' :=
 (me5 (qc0 hb) (Of0 h hx) hx).carry (fe4 hR hb) (λ_ _ h=>h) (λ_ _ _=>rfl)
theorem Se2{x z:b7}{x':Value}(h:TC k H R x z)(hx:XC ρ H F w x x'):XW (λj=>ρ ((R[j]?).getD 0)) (s5 (pb0 k H R) H2) F w z x'/\(XC (λj=>ρ ((R[j]?).getD 0)) (s5 (pb0 k H R) H2) F w z x'):=by
 have main:XC (λj=>ρ ((R[j]?).getD 0)) (s5 (pb0 k H R) H2) F w z x':=by
  cases hx with
  |n hx=>exact .n (sg2 hR hb h hx)
  |box id c g b hb1 hd he =>
   cases h with
   |unk=>exact .n (.unk _)
   |ptr _ _ _ _ j b2 hb2 hj =>
    have e:ρ id=(λj=>ρ ((R[j]?).getD 0)) j:=by simp[hj]
    rw[e];obtain⟨q1,q2,q3,q4,q5,q6⟩:=qc1 (k:=k) (H:=H) (R:=R) (reG k j b);exact .box j c _ _ (yf7 hR hb hj hb1) (by rw[q3,eb6];exact hd) ⟨by rw[q2,Rb5];exact he.1,by rw[q1,Yc1];exact he.2⟩
   |same _ hs=>exact hs.elim
  |map id c g b t hb1 hd he =>
   cases h with
   |unk=>exact .n (.unk _)
   |ptr _ _ _ _ j b2 hb2 hj =>
    have e:ρ id=(λj=>ρ ((R[j]?).getD 0)) j:=by simp[hj]
    rw[e];obtain⟨q1,q2,q3,q4,q5,q6⟩:=qc1 (k:=k) (H:=H) (R:=R) (reG k j b);exact .map j c _ _ t (yf7 hR hb hj hb1) (by rw[q3,eb6];exact hd) ⟨by rw[q2,Rb5];exact he.1,by rw[q1,Yc1];exact he.2⟩
   |same _ hs=>exact hs.elim
 exact⟨.c main,main⟩
theorem gg8{x z:b7}{x':Value}(h:TW k H R x z)(hx:XW ρ H F w x x'):XW (λj=>ρ ((R[j]?).getD 0)) (s5 (pb0 k H R) H2) F w z x':=by
 cases hx with
 |w hx=>exact .w (Xf8 hR hb h hx)
 |c hx =>
  have hx0:=hx;cases hx with
  |n hx=>exact .w (Xf8 hR hb h (.val (.cell hx)))
  |box =>
   cases h with
   |val _ h=>cases h with
    |cell _ h=>exact (Se2 hR hb h hx0).1
  |map =>
   cases h with
   |val _ h=>cases h with
    |cell _ h=>exact (Se2 hR hb h hx0).1
theorem yf8(h:vf7 P WB W' ρ H F w):vf7 P WB W' (λj=>ρ ((R[j]?).getD 0)) (s5 (pb0 k H R) H2) F w:=by
 refine⟨λj c hc hs hd=>?_,λj j' c c' hc hc' hs hs' hd hd' hne=>?_⟩
 ·obtain⟨id,b,h1,h2,h3,h4⟩:=oe8 hR hb hc;subst h4;obtain⟨q1,q2,q3,q4,q5,q6⟩:=qc1 (k:=k) (H:=H) (R:=R) (reG k j b);rw[q6,Kd7 hR hb] at hs;rw[q3,eb6] at hd;obtain⟨k1,k2,k3,k4,k5⟩:=h.has id b h3 hs hd;simp only[h2];refine⟨k1,k2,k3,k4,?_⟩
  rcases k5 with⟨e,row,vs,t,m1,m2,m3,m4⟩|⟨t,K,El,fl,es,clk,m1,m2,m3,m4,m5,m6⟩
  ·refine .inl ⟨⟨by rw[q2,Rb5];exact e.1,by rw[q1,Yc1];exact e.2⟩,row.map (sf6 k H R),vs,t,?_,m2,by simpa using m3,λi z x' hz hx'=>?_⟩
   ·unfold pb0
    have:(I4 (reG k j b)&&Nat.beq (reG k j b).et 0)=true:=by rw[Kd7 hR hb,hs,Yc1,e.2];rfl
    rw[this];show s5 (s5 (sf6 k H R)) (reG k j b).elems=_;rw[mb5,m1,s8];simp[s8]
   ·rw[Qbe] at hz;cases hq:row[i]? with
    |none=>rw[hq] at hz;cases hz
    |some q =>
     rw[hq] at hz;injection hz with hz;subst hz;obtain⟨g1,g2⟩:=m4 i q x' hq hx';exact⟨g1,(Se2 hR hb (Nf9 q) g2).2⟩
  ·have hnb : pb0 k H R (reG k j b) = reG k j b := by
    unfold pb0
    have:(I4 (reG k j b)&&Nat.beq (reG k j b).et 0)=false:=by
     rw[Yc1,m1.2,Bool.and_eq_false_iff];exact .inr rfl
    rw[this]
   rw[hnb];exact .inr ⟨t,K,El,fl,es,clk,⟨by rw[Rb5];exact m1.1,by rw[Yc1];exact m1.2⟩,m2,m3,m4,by rw[mb5];exact m5,by rw[mb5];exact m6⟩
 ·obtain⟨id,b,h1,h2,h3,h4⟩:=oe8 hR hb hc;obtain⟨id',b',h1',h2',h3',h4'⟩:=oe8 hR hb hc';subst h4 h4';obtain⟨_,_,q3,_,_,q6⟩:=qc1 (k:=k) (H:=H) (R:=R) (reG k j b);obtain⟨_,_,q3',_,_,q6'⟩:=qc1 (k:=k) (H:=H) (R:=R) (reG k j' b');rw[q6,Kd7 hR hb] at hs;rw[q6',Kd7 hR hb] at hs';rw[q3,eb6] at hd;rw[q3',eb6] at hd';simp only[h2,h2'];refine h.apart id id' b b' h3 h3' hs hs' hd hd' λe=>hne ?_
  subst e;obtain⟨a1,a2⟩:=Qab.1 h1;obtain⟨b1,b2⟩:=Qab.1 h1';exact (List.getElem_inj hR.nodup).1 (a2.trans b2.symm)
end
theorem gg9{ds:List Deferred}(hR:TOk H0.length R)(hb:eb4 H0.length H 0 R=some H2)(h:C2 P WB K J ρ0 H0 F0 w0 H ds w ρ F W' up):C2 P WB K J ρ0 H0 F0 w0 (s5 (pb0 H0.length H R) H2) ds w (λj=>ρ ((R[j]?).getD 0)) F W' up:=by
 have hAd:=dd7 hR hb h.adv;have hat:∀(j:Nat) c,H2[j]?=some c->(s5 (pb0 H0.length H R) H2)[j]?=some (pb0 H0.length H R c):=λj c hc=>by rw[s8,Qbe,hc];rfl
 refine⟨h.sub,⟨hAd.ext,λid b hid=>?_,hAd.more,hAd.new,λid b' hb' hn=>?_⟩,?_,yf8 hR hb h.srel,h.kept,λj c hc hs hd=>?_,h.jot,h.marks⟩
 ·obtain⟨b',k1,k2,k3,k4⟩:=hAd.heap id b hid;obtain⟨q1,q2,q3,q4,q5,q6⟩:=qc1 (k:=H0.length) (H:=H) (R:=R) b'
  simp_all
 ·rw[s8,Qbe] at hb';cases hq:H2[id]? with
  |none=>rw[hq] at hb';cases hb'
  |some c =>
   rw[hq] at hb';injection hb' with hb';subst hb';obtain⟨_,_,_,q4,_,_⟩:=qc1 (k:=H0.length) (H:=H) (R:=R) c;exact hAd.fresh id c hq λb hb1=>by rw[<- q4];exact hn b hb1
 ·refine (Oc8 hR h.hrel (qc0 hb)).pull (λi=>i) (λi b hb1 hd=>?_) (λ_ _ _ _ _ _ _ _ e=>e)
  obtain⟨h1,h2⟩:=la6 hb1 hd;rw[s8,Qbe] at h1;cases hq:H2[i]? with
  |none=>rw[hq] at h1;cases h1
  |some c =>
   rw[hq] at h1;injection h1 with h1;have hsc:I4 c=false:=by
    obtain⟨_,_,_,_,_,q6⟩:=qc1 (k:=H0.length) (H:=H) (R:=R) c;rw[<- q6,h1];exact h2
   rw[fe3 hsc] at h1;subst h1;exact⟨ga5 hq hsc,rfl⟩
 ·obtain⟨id,b,h1,h2,h3,h4⟩:=oe8 hR hb hc;subst h4;obtain⟨_,_,q3,_,_,q6⟩:=qc1 (k:=H0.length) (H:=H) (R:=R) (reG H0.length j b);rw[q6,Kd7 hR hb] at hs;rw[q3,eb6] at hd;simp only[h2];exact h.far id b h3 hs hd
theorem I3.tidyM{s s':St}{ac:Act}{keep:List Nat}(h:I3 P WB K J n S rv DF ρ0 H0 F0 w0 s ac w)(he:(Ev.tidyM H0.length ⟨X6 keep s.a 0,s.H⟩).run=some s'):I3 P WB K J n S rv DF ρ0 H0 F0 w0 s' ac w:=by
 obtain⟨⟨ρ,F,W',up,hI⟩,hheld,hdf⟩:=h;unfold Ev.tidyM at he;cases ht:cd4 H0.length s.H (X6 keep s.a 0) (List.range H0.length) with
 |mk a roots =>
 simp only[ht] at he;cases hb:eb4 H0.length s.H 0 (ce0 s.H roots roots) with
 |none=>simp[hb] at he
 |some H2 =>
 simp only[hb] at he;have he':some (⟨a,s5 (pb0 H0.length s.H (ce0 s.H roots roots)) H2⟩:St)=some s':=he;injection he' with he';subst he';obtain⟨k1,_,k3,k4⟩:=Hd9 (TOk.start _) ht;obtain⟨m1,m2⟩:=De5 s.H roots roots k1;obtain⟨g1,g2⟩:=Dc3 keep s.a 0;refine⟨⟨_,F,W',up,gg9 m1 hb hI.core,⟨(k3.trans g1).trans hI.vals.1,λi x x' hx hx'=>?_⟩,hI.size⟩,hheld,hdf⟩
 have hi:i<(X6 keep s.a 0).length:=k3 ▸ (Qab.1 hx).1;have hk:=k4 i _ x (Qaa hi) hx;refine gg8 m1 hb (hk.le m2) ?_
 rcases g2 i _ (Qaa hi) with e|e
 ·rw[e];exact .w (.unk _)
 ·exact hI.vals.2 i _ x' e hx'
end
section
variable{DS:Nat->Prop}{tm:Array Value}{ds:List Deferred}{Fe:Fence}{nn:Nat}
variable{W:Nat->Prop}{ρ0:Rho}{H0:List c7}{F0:Fz}{w0 w:World}
variable{tr:Nat}{E:Env}{ops:Array Oper}{M:List Nat}{ks:List (Nat×PI)}{s:St}{U T:Nat->St}
structure Ac4(DS:Nat->Prop)(tm:Array Value)(ds:List Deferred)(W:Nat->Prop)(ρ0:Rho)(H0:List c7)(F0:Fz)(w0:World)(tr:Nat)(E:Env)(ops:Array Oper)(a0:List b7)(U T:Nat->St)(m:Nat)(listed:Array Bool)(ac:Act)(w:World):Prop where
 size:listed.size=ops.size
 closed:∀j,j<ops.size->J1 listed j->∀i∈L3 (Sa0 ops j),J1 listed i
 hm:m<=ops.size
 heavy:∀j,j<ops.size->R8 tr E.P ops j=2->(J1 listed j↔j<m)
 inv:Xb4 DS tm ds W ρ0 H0 F0 w0 ⟨vb8 (T ops.size).a a0 (ea5 ops listed),qa3 (T m).H (W4 tr E.P ops U listed)⟩ ac w
variable(hD:DC tr E.P ops M ks)(hT:Id6 E ops ks s U T)(hin:∀j,j<ops.size->R8 tr E.P ops j=0->∀d,oa0 ops j=some d->d<s.a.length)
include hD
theorem lb7{m:Nat}{listed:Array Bool}{ac:Act}(hR:Ac4 DS tm ds W ρ0 H0 F0 w0 tr E ops s.a U T m listed ac w){j:Nat}(hj:j<ops.size)(hd:∀i∈L3 (Sa0 ops j),J1 listed i){i:Nat}(hi:i<ops.size)(hb:G9 M i j=true):J1 listed i :=
 vd6 hD.rows (J1 listed) (λj' o ho hx i hi=>by
  have hj':=(Qak.1 ho).1
  have:o=Sa0 ops j':=Qag (ho.symm.trans (xa7 hj'))
  subst this;exact hR.closed j' hj' hx i hi) j _ (xa7 hj) hd i hi hb
include hT
theorem Kd8{m:Nat}{listed:Array Bool}{ac:Act}(hR:Ac4 DS tm ds W ρ0 H0 F0 w0 tr E ops s.a U T m listed ac w){j:Nat}(hj:j<ops.size)(hnx:¬ J1 listed j)(hd:∀i∈L3 (Sa0 ops j),J1 listed i) :
  Agr (T j).a (vb8 (T ops.size).a s.a (ea5 ops listed)) (Xc4 (Yc4 ops j)++Yb6 (ba4 tr E.P ops j)):=λt ht=>by
 have huniq:∀{i i':Nat},i<ops.size->i'<ops.size->oa0 ops i=some t->oa0 ops i'=some t->i=i':=λ{i i'} h1 h2 e1 e2=>((hD.slots h1 h2 e1).2).resolve_right λh=>h e2
 have hend:(∀i,j<=i->i<ops.size->oa0 ops i≠some t)->(T j).a[t]?=(T ops.size).a[t]?:=λh=>by
  have:=Yc5 hD hT (t:=t) (ops.size-j) j (by omega) λi h1 h2 _=>h i h1 (by omega)
  rw[show j+(ops.size-j)=ops.size by omega] at this
  exact this.symm
 by_cases hw:∃i,i<ops.size/\oa0 ops i=some t
 ·obtain⟨i,hi,hdi⟩:=hw
  rcases (hD.slots hi hj hdi).1 ht with hb|⟨_,hna,hb⟩
  ·have hxi:=lb7 hD hR hj hd hi hb;rw[xb8]
   ·refine hend λk h1 h2 he=>?_
    have:=huniq hi h2 hdi he
    have:=jc2 hD hj hi hb
    omega
   ·rintro⟨k,h1,h2,h3⟩
    grind
  ·have hxi : ¬ J1 listed i := fun hx => by
    rcases hb with hb|hb
    ·exact hnx (lb7 hD hR hi (hR.closed i hi hx) hj hb)
    ·subst hb;exact hnx hx
   have hji:j<=i:=by
    rcases hb with hb|hb
    ·have:=jc2 hD hi hj hb;omega
    ·omega
   have h1:=Yc5 hD hT (t:=t) j 0 (by omega) λk _ h2 _ he=>by
    have:=huniq hi (by omega) hdi he
    omega
   have h2:=ne3 hD hT (t:=t) ops.size 0 (by omega) λk _ h2 hk he=>by
    have:=huniq hi (by omega) hdi he
    subst this
    have:=Id5 hk
    rw[hna] at this;cases this
   rw[Qar] at h1 h2;rw[h1,hT.t0,h2,hT.u0]
   rcases Qaq t (T ops.size).a.length with hlt|hge
   ·rw[ed2 ⟨i,hi,hdi,hxi⟩ hlt];rw[(Dc8 hD hT ops.size (Qaf _)).2] at hlt
    simp_all
   ·rw[Qat (by rw[<- (Dc8 hD hT ops.size (Qaf _)).2];exact hge),Qat (by rw[xb7];exact hge)]
 ·rw[xb8]
  ·grind
  ·rintro⟨k,h1,h2,_⟩;exact hw ⟨k,h1,h2⟩
end
section
variable{DS:Nat->Prop}{tm:Array Value}{ds:List Deferred}{Fe:Fence}{nn:Nat}
variable{W:Nat->Prop}{ρ0:Rho}{H0:List c7}{F0:Fz}{w0 w:World}
variable{tr:Nat}{E:Env}{ops:Array Oper}{M:List Nat}{ks:List (Nat×PI)}{s:St}{U T:Nat->St}
variable(hD:DC tr E.P ops M ks)(hT:Id6 E ops ks s U T)(hin:∀j,j<ops.size->R8 tr E.P ops j=0->∀d,oa0 ops j=some d->d<s.a.length)
variable(hpairs:Za8 E (T ops.size).a (Qa9 ops.size M ks)=true)
variable(hF:FW Fe)(hDS:∀j d,j<ops.size->oa0 ops j=some d->DS d)
variable(hG0:GOk E F0 w0)(hcalls:∀f,l8 E.P E.G f (E.call f))
include hD
theorem Ac4.next{m m':Nat}{listed:Array Bool}{ac ac':Act}{w':World}(hR:Ac4 DS tm ds W ρ0 H0 F0 w0 tr E ops s.a U T m listed ac w){i:Nat}(hi:i<ops.size)(hdi:∀j∈L3 (Sa0 ops i),J1 listed j)
  (hm':m'<=ops.size) (hheavy:∀j,j<ops.size->R8 tr E.P ops j=2->(J1 (listed.setIfInBounds i true) j↔j<m'))
  {x:b7} (hx:∀d,oa0 ops i=some d->d<(T ops.size).a.length->(T ops.size).a[d]?=some x)
  (hI:Xb4 DS tm ds W ρ0 H0 F0 w0 ⟨putA (vb8 (T ops.size).a s.a (ea5 ops listed)) (oa0 ops i) x,qa3 (T m').H (W4 tr E.P ops U (listed.setIfInBounds i true))⟩ ac' w') :
  Ac4 DS tm ds W ρ0 H0 F0 w0 tr E ops s.a U T m' (listed.setIfInBounds i true) ac' w':=by
 refine⟨by simpa using hR.size,λj hj hx k hk=>?_,hm',hheavy,by rw[kf9 hD hR.size hi hx];exact hI⟩
 have his:i<listed.size:=by rw[hR.size];exact hi
 rcases (X7 his).1 hx with h|h
 ·exact (X7 his).2 (.inl (hR.closed j hj h k hk))
 ·subst h;exact (X7 his).2 (.inl (hdi k hk))
omit hD in
theorem Xb4.puts{ac:Act}{j:Nat}(hDS:∀j d,j<ops.size->oa0 ops j=some d->DS d)(hj:j<ops.size)(hsm:∀t,¬ DS t->ac.tmps[t]?=tm[t]?)(v:Value)(t:Nat)(ht:¬ DS t):(ac.put (oa0 ops j) v).tmps[t]?=tm[t]?:=(jc4 λe=>ht (hDS j t hj e)).trans (hsm t ht)
include hG0 hcalls hF hDS in
theorem pd4{ac:Act}{i:Nat}{a:List b7}{H H':List c7}{b:Bool}{x:b7}{Q:Exit->Act->World->Prop}{K:Act->World->Prop}(hi:i<ops.size)
  (hI:Xb4 DS tm ds W ρ0 H0 F0 w0 ⟨a,H⟩ ac w) (hg:Ad5 E a (Yc4 ops i)=some b)
  (h1:b=true->(evalOp E a H (ba4 tr E.P ops i)).run=some (x,H')) (h2:b=false->x=.v (.tuple #[])/\H'=H)
  (hK:∀ac' w',Xb4 DS tm ds W ρ0 H0 F0 w0 ⟨putA a (oa0 ops i) x,H'⟩ ac' w'->K ac' w'):wpOpIn Fe nn E.P ops Q i K ac w:=by
 obtain⟨hd,hsz,hsm,ρ,F,hAdv,hH,hA⟩:=hI;have hw:=Be3 (hD.guard i hi) hA hg;unfold wpOpIn;simp only[xa7 hi,hw];cases b with
 |true =>
  rw[if_pos rfl];refine (de4 (ac:={ ac with defers:=[] }) tr hA hH (hG0.adv hAdv) hcalls (h1 rfl)).inAny hF nn _ _ λx' w' hp=>?_
  obtain⟨ρ',F',a1,a2,a3⟩:=hp;exact hK _ _ ⟨(E2 _ _).trans hd,(ia7 _ _).trans hsz,Xb4.puts hDS hi hsm _,ρ',F',hAdv.trans a1,a2,(hA.adv a1).putA _ a3⟩
 |false =>
  rw[if_neg (by simp)]
  obtain⟨e1,e2⟩:=h2 rfl;subst e1 e2;exact⟨λf _=>hF.fn f,hK _ _ ⟨(E2 _ _).trans hd,(ia7 _ _).trans hsz,Xb4.puts hDS hi hsm _,ρ,F,hAdv,hH,hA.putA _ (.ofv _)⟩⟩
include hT hin hpairs hG0 hcalls hF hDS
theorem wd1{m:Nat}{listed:Array Bool}{ac:Act}(hR:Ac4 DS tm ds W ρ0 H0 F0 w0 tr E ops s.a U T m listed ac w){i:Nat}(hi:i<ops.size)(hk:R8 tr E.P ops i=1)(hnx:¬ J1 listed i)(hdi:∀j∈L3 (Sa0 ops i),J1 listed j)
  {Q:Exit->Act->World->Prop} {K:Act->World->Prop} (hK:∀ac' w',Ac4 DS tm ds W ρ0 H0 F0 w0 tr E ops s.a U T m (listed.setIfInBounds i true) ac' w'->K ac' w'):wpOpIn Fe nn E.P ops Q i K ac w:=by
 obtain⟨b,x,g1,g2,g3,g4⟩:=Ed6 hD hT hi hk;have hread:=Kd8 hD hT hR hi hnx hdi;have hne:R8 tr E.P ops i≠0:=by omega
 refine pd4 hD hF hDS hG0 hcalls (H':=qa3 (T m).H (W4 tr E.P ops U listed)) hi hR.inv ((Yc3 hread.left).symm.trans g1) (λhb=>?_) (λhb=>⟨g4 hb,rfl⟩) λac' w' hI'=>hK ac' w' ?_
 ·have he:=g3 hb;rw[dd8 _ hread.right] at he;refine (dd9 (Be6 hk) he).2 _ λid hid=>?_
  -- the block that is looked at stands in the heap at hand
  have hlive:∃b',(qa3 (T m).H (W4 tr E.P ops U listed))[id]?=some b'/\b'.dead=false:=by
   obtain⟨hd0,_,_,ρ,F,hAdv,hH,hA⟩:=hR.inv;have harg:∀(y:Arg),Ed2 y=true->id∈Ea7 (c9 E (vb8 (T ops.size).a s.a (ea5 ops listed)) y)->∃b',(qa3 (T m).H (W4 tr E.P ops U listed))[id]?=some b'/\b'.dead=false:=λy hy hm=>by
    cases y with
    |c z =>
     exfalso;have hm':id∈Ea7 z:=hm;cases z<;>first | (cases hm';done) | (cases hy;done)
    |g n =>
     exfalso;have hm':id∈Ea7 (.tptr (s5 .v (E.G n))):=hm;cases hm'
    |t n =>
     rw[Mb7] at hm;cases hn:(vb8 (T ops.size).a s.a (ea5 ops listed))[n]? with
     |none=>rw[hn] at hm;cases hm
     |some u =>
     rw[hn] at hm;simp only[Option.getD_some] at hm;have hlt:n<ac.tmps.size:=hA.1 ▸ (Qab.1 hn).1;have hW:=hA.2 n u _ hn (Qac hlt);cases u with
     |ptr id' i c g =>
      have:id=id':=by simpa [Ea7] using hm
      subst this;obtain⟨_,b',_,h1,h2,_⟩:=Za9 hW;exact⟨b',h1,h2⟩
     |sl id' off n g =>
      have:id=id':=by simpa [Ea7] using hm
      subst this;obtain⟨_,_,b',_,h1,h2,_⟩:=lb3 hW;exact⟨b',h1,h2⟩
     |_=>cases hm
   have hbare:=hD.bare hi
   revert hbare hid
   generalize ba4 tr E.P ops i=q;intro hid hbare;cases q with
   |load ks n agg y=>exact harg y hbare hid
   |idxS es y z=>exact harg y hbare hid
   |slice es y lo hi=>exact harg y hbare hid
   |_=>cases hid
  obtain⟨b',hb1,hb2⟩:=hlive;obtain⟨hnD,hb3⟩:=Qe3 hb1 hb2;have huse:id∈lb2 E (T ops.size).a (ba4 tr E.P ops i):=by
   rw[<- uf1 hD hT hi,ed8 hread.right];exact hid
  -- nobody between touches it
  have hbetween:∀j,j<ops.size->R8 tr E.P ops j=2->G9 M i j=false->G9 M j i=false->id∉aa9 E (T ops.size).a (ba4 tr E.P ops j):=λj hj hkj h1 h2 =>
   Id7 hpairs (hD.pair hj hi hk hkj h2 h1) id huse
  have hlike:Z6 (T i).H (T m).H id:=by
   rcases Qaq i m with him|him
   ·have := Re0 hD hT hin (id := id) (m - i) i (by have := hR.hm; omega) fun j h1 h2 hkj => by
     have hj:j<ops.size:=by have:=hR.hm;omega
     have hxj:=(hR.heavy j hj hkj).2 (by omega)
     refine hbetween j hj hkj ?_ ?_
     ·cases hc:G9 M i j with
      |false=>rfl
      |true=>exact absurd (lb7 hD hR hj (hR.closed j hj hxj) hi hc) hnx
     ·cases hc:G9 M j i with
      |false=>rfl
      |true=>have:=jc2 hD hi hj hc;omega
    grind
   ·have := Re0 hD hT hin (id := id) (i - m) m (by omega) fun j h1 h2 hkj => by
     have hj:j<ops.size:=by omega
     have hxj:¬ J1 listed j:=λh=>by have:=(hR.heavy j hj hkj).1 h;omega
     refine hbetween j hj hkj ?_ ?_
     ·cases hc:G9 M i j with
      |false=>rfl
      |true=>have:=jc2 hD hj hi hc;omega
     ·cases hc:G9 M j i with
      |false=>rfl
      |true=>exact absurd (lb7 hD hR hi hdi hj hc) hxj
    rw[show m+(i-m)=i by omega] at this
    intro b0 hb0;obtain⟨b2,h3,h4⟩:=this b' hb3
    have:b2=b0:=Qag (h3.symm.trans hb0)
    subst this;exact⟨b',hb3,h4.1.symm,h4.2.1.symm,h4.2.2.1.symm,h4.2.2.2.1.symm,h4.2.2.2.2.symm⟩
  refine hlike.trans λb0 hb0=>⟨b0,?_,.refl b0⟩
  grind
 ·refine Ac4.next hD hR hi hdi hR.hm (λj hj hkj=>?_) (x:=x) (λd hd hlt=>?_) ?_
  ·rw[X7 (hR.size ▸ hi)];rw[<- hR.heavy j hj hkj]
   grind
  ·rw[Xf2 hD hT hi hd,g2,hd];refine Ed5 ?_;rw[(Dc8 hD hT i (by omega)).2,<- (Dc8 hD hT ops.size (Qaf _)).2]
   exact hlt
  ·rw[ee2 hR.size hi hne];exact hI'
omit hpairs in
theorem wd2{m:Nat}{listed:Array Bool}{ac:Act}(hR:Ac4 DS tm ds W ρ0 H0 F0 w0 tr E ops s.a U T m listed ac w){i:Nat}(hi:i<ops.size)(hk:R8 tr E.P ops i=2)(hnx:¬ J1 listed i)(hdi:∀j∈L3 (Sa0 ops i),J1 listed j)
  {Q:Exit->Act->World->Prop} {K:Act->World->Prop} (hK:∀ac' w',Ac4 DS tm ds W ρ0 H0 F0 w0 tr E ops s.a U T (i+1) (listed.setIfInBounds i true) ac' w'->K ac' w'):wpOpIn Fe nn E.P ops Q i K ac w:=by
 obtain⟨b,x,g1,g2,g3,g4⟩:=ne6 hD hT hin hi hk;have hread:=Kd8 hD hT hR hi hnx hdi;have hne:R8 tr E.P ops i≠0:=by omega
 have hmi:m<=i:=by
  rcases Qaq i m with h|h
  ·exact absurd ((hR.heavy i hi hk).2 h) hnx
  ·exact h
 have hno:∀j,m<=j->j<i->R8 tr E.P ops j≠2:=λj h1 h2 hkj=>by
  have hj:j<ops.size:=by omega
  have:=(hR.heavy j hj hkj).1 (lb7 hD hR hi hdi hj (hD.chain h2 hi hkj hk).1)
  omega
 have hsame:(T m).H=(T i).H:=by
  have:=Qe9 hD hT (i-m) m (by omega) λj h1 h2=>hno j h1 (by omega)
  grind
 have hfin:∀{H':List c7} {ac':Act} {w':World},H'=qa3 (T (i+1)).H (W4 tr E.P ops U listed)->Xb4 DS tm ds W ρ0 H0 F0 w0 ⟨putA (vb8 (T ops.size).a s.a (ea5 ops listed)) (oa0 ops i) x,H'⟩ ac' w'->K ac' w':=λ{H' ac' w'} e hI'=>by
  refine hK ac' w' (Ac4.next hD hR hi hdi (by omega) (λj hj hkj=>?_) (x:=x) (λd hd hlt=>?_) ?_)
  ·rw[X7 (hR.size ▸ hi)];constructor
   ·rintro (h|h)
    ·have:=(hR.heavy j hj hkj).1 h;omega
    ·omega
   ·intro h;by_cases e:j=i
    ·exact .inr e
    ·refine .inl ((hR.heavy j hj hkj).2 ?_)
     rcases Qaq j m with h'|h'
     ·exact h'
     ·exact absurd hkj (hno j h' (by omega))
  ·rw[Xf2 hD hT hi hd,g2,hd];refine Ed5 ?_;rw[(Dc8 hD hT i (by omega)).2,<- (Dc8 hD hT ops.size (Qaf _)).2]
   exact hlt
  ·rw[ee2 hR.size hi hne,<- e];exact hI'
 cases b with
 |false =>
  obtain⟨h1,h2⟩:=g4 rfl;exact pd4 hD hF hDS hG0 hcalls (x:=x) (H':=qa3 (T m).H (W4 tr E.P ops U listed)) hi hR.inv ((Yc3 hread.left).symm.trans g1) (λh=>by cases h) (λ_=>⟨h1,rfl⟩) λac' w' hI'=>hfin (by rw[h2,hsame]) hI'
 |true =>
  obtain⟨hid,H',h5,h6,h7⟩:=g3 rfl;rw[dd8 _ hread.right] at h6;have hall:∀id∈hid,id<(T i).H.length:=λid hid'=>by
   obtain⟨b',k1,k2,k3,rfl⟩:=(h5 id).1 hid';exact uf2 hD hT hin hi hk k1 k2 k3
  have hsub:∀id,W4 tr E.P ops U listed id->id∈hid:=λid ⟨b',k1,k2,k3,k4⟩=>by
   refine (h5 id).2 ⟨b',k1,k2,?_,k4⟩;cases hc:G9 M b' i with
   |false=>rfl
   |true=>exact absurd (lb7 hD hR hi hdi k1 hc) k3
  have hMono:P3 (·∈hid) (qa3 (T i).H (·∈hid)) (qa3 (T i).H (W4 tr E.P ops U listed)) (qa3 (T i).H (·∈hid)) (qa3 (T i).H (W4 tr E.P ops U listed)):=by
   refine⟨by rw[Pb8,Pb8],λid hn=>?_,λid b hm hb=>?_,λ_ _=>rfl,λ_ _=>rfl,λid h=>by rw[Pb8];exact hall id h⟩
   ·rw[ea4 (D:=(·∈hid)) hn,ea4 λh=>hn (hsub id h)]
   ·rw[Ea9 (D:=(·∈hid)) hm] at hb
    grind
  obtain⟨H2',h8,h9⟩:=hMono.evalOp (ed4 hk) h6;refine pd4 hD hF hDS hG0 hcalls (x:=x) (H':=H2') hi hR.inv ((Yc3 hread.left).symm.trans g1) (λ_=>by rw[hsame];exact h8) (λh=>by cases h) λac' w' hI'=>hfin ?_ hI'
  refine Qce λid=>?_
  rw[h7];by_cases hm:id∈hid
  ·rw[h9.at2 id hm];have hr:=od3 (H0:=(T i).H) (H:=H') hm (hall id hm) (h9.bound id hm);by_cases hd:W4 tr E.P ops U listed id
   ·rw[Ea9 hd,Ea9 hd,hr]
   ·rw[ea4 hd,ea4 hd,hr]
  ·rw[<- h9.same id hm,ea4 λh=>hm (hsub id h),Id3 hm]
end
section
variable{DS:Nat->Prop}{tm:Array Value}{ds:List Deferred}{Fe:Fence}{nn:Nat}
variable{W:Nat->Prop}{ρ0:Rho}{H0:List c7}{F0:Fz}{w0 w:World}
variable{tr:Nat}{E:Env}{ops:Array Oper}{M:List Nat}{ks:List (Nat×PI)}{s:St}{U T:Nat->St}
variable(hD:DC tr E.P ops M ks)(hT:Id6 E ops ks s U T)(hin:∀j,j<ops.size->R8 tr E.P ops j=0->∀d,oa0 ops j=some d->d<s.a.length)(hlen:H0.length<=s.H.length)
variable(hF:FW Fe)(hDS:∀j d,j<ops.size->oa0 ops j=some d->DS d)
include hD hT hin hlen
include hF hDS in
theorem wd3(hG0:GOk E F0 w0)(hcalls:∀f,l8 E.P E.G f (E.call f)){m:Nat}{listed:Array Bool}{ac:Act}(hR:Ac4 DS tm ds W ρ0 H0 F0 w0 tr E ops s.a U T m listed ac w){i:Nat}(hi:i<ops.size)(hk:R8 tr E.P ops i=0)(hnx:¬ J1 listed i)(hdi:∀j∈L3 (Sa0 ops i),J1 listed j)
  {Q:Exit->Act->World->Prop} {K:Act->World->Prop} (hK:∀ac' w',Ac4 DS tm ds W ρ0 H0 F0 w0 tr E ops s.a U T m (listed.setIfInBounds i true) ac' w'->K ac' w'):wpOpIn Fe nn E.P ops Q i K ac w:=by
 obtain⟨d,hgn,hd,hevA,hU⟩:=Zb0 hD hT hi hk;generalize hnb:me8 (ba4 tr E.P ops i)=NB at *
 have nbd:NB.dead=false:=hnb ▸ kf7 _;have nbg:NB.g=0:=hnb ▸ eg5 _;obtain⟨hd0,hsz,hsm,ρ,F,hAdv,hH,hA⟩:=hR.inv
 simp only at hAdv hH hA
 generalize hHS:qa3 (T m).H (W4 tr E.P ops U listed)=HS at hAdv hH hA;have hHSlen:HS.length=(T m).H.length:=by rw[<- hHS,Pb8]
 have his:i<listed.size:=by rw[hR.size];exact hi
 -- the block stands in the text's heap,asq it was made
 have hblk:(T m).H[(U i).H.length]?=some (NB):=by
  have h1:=ne7 hD hT hin hi hk m hR.hm λh h1 h2=>by
   cases hc:G9 M i h with
   |false=>rfl
   |true =>
    have hh:h<ops.size:=by have:=hR.hm;omega
    exact absurd (lb7 hD hR hh (hR.closed h hh ((hR.heavy h hh h2).2 h1)) hi hc) hnx
  rw[h1,Qe8 hD hT hi hk,hnb]
 have hidlt:(U i).H.length<HS.length:=by rw[hHSlen];exact (Qab.1 hblk).1
 have hidge:s.H.length<=(U i).H.length:=(Qe7 hD hT (by omega)).1
 have hdead:W4 tr E.P ops U listed (U i).H.length:=⟨i,hi,hk,hnx,rfl⟩;have hinj:∀b,b<ops.size->R8 tr E.P ops b=0->(U i).H.length=(U b).H.length->b=i:=λb hb hkb he=>by
  rcases Nat.lt_trichotomy b i with h|h|h
  ·have:=rg0 hD hT h (by omega) hkb;omega
  ·exact h
  ·have:=rg0 hD hT h (by omega) hk;omega
 have hdead':∀id,W4 tr E.P ops U (listed.setIfInBounds i true) id↔W4 tr E.P ops U listed id/\id≠(U i).H.length:=λid=>by
  constructor
  ·rintro⟨b,h1,h2,h3,h4⟩;refine⟨⟨b,h1,h2,λh=>h3 ((X7 his).2 (.inl h)),h4⟩,λe=>h3 ((X7 his).2 (.inr ?_))⟩
   exact hinj b h1 h2 (e.symm.trans h4)
  ·rintro⟨⟨b,h1,h2,h3,h4⟩,h5⟩;refine⟨b,h1,h2,λh=>?_,h4⟩
   rcases (X7 his).1 h with h|h
   ·exact h3 h
   ·subst h;exact h5 h4
 generalize hHS':qa3 (T m).H (W4 tr E.P ops U (listed.setIfInBounds i true))=HS';have hoff:∀id,id≠(U i).H.length->HS'[id]?=HS[id]?:=λid hne=>by
  rw[<- hHS',<- hHS];by_cases h:W4 tr E.P ops U listed id
  ·rw[Ea9 h,Ea9 ((hdead' id).2 ⟨h,hne⟩)]
  ·rw[ea4 h,ea4 λh'=>h ((hdead' id).1 h').1]
 have hon:HS'[(U i).H.length]?=some (NB):=by
  rw[<- hHS',ea4 λh'=>((hdead' _).1 h').2 rfl]
  exact hblk
 have hHSdead:∀b,HS[(U i).H.length]?=some b->b.dead=true:=λb hb=>by
  rw[<- hHS,Ea9 hdead] at hb;simp only[Qbm] at hb;obtain⟨c,_,rfl⟩:=hb;rfl
 -- the operation
 have hev:=hevA (vb8 (T ops.size).a s.a (ea5 ops listed)) HS;unfold wpOpIn;have hw:Region.wanted (Sa0 ops i) (yielded ops ac.tmps)=true:=by simp[Region.wanted,hgn]
 simp only[xa7 hi,hw];rw[if_pos trivial];refine (de4 (ac:={ ac with defers:=[] }) (ops:=ops) tr hA hH (hG0.adv hAdv) hcalls hev).inAny hF nn _ _ (λx' w' hp=>hK _ _ (Ac4.next hD hR hi hdi hR.hm (λj hj hkj=>?_) (x:=Ad6 (ba4 tr E.P ops i) (U i).H.length) (λd' hd' hlt=>?_) ?_))
 ·rw[X7 his,<- hR.heavy j hj hkj]
  grind
 ·refine ne4 hD hT hi hk hd' ?_ (Qaf _)
  grind
 ·obtain⟨ρ',F',a1,a2,a3⟩:=hp;rw[hHS'];have hadv:=hAdv.trans a1
  let ρ2:Rho:=λid=>if id=(U i).H.length then ρ' HS.length else ρ' id
  have hρ2:∀id,id≠(U i).H.length->ρ2 id=ρ' id:=λid h=>if_neg h
  have hρ2':ρ2 (U i).H.length=ρ' HS.length:=if_pos rfl;have hold:∀id b,HS'[id]?=some b->id≠(U i).H.length->(HS++[NB])[id]?=some b:=λid b hb hne=>by
   rw[hoff id hne] at hb;rw[Qbb (Qab.1 hb).1];exact hb
  have hN:(HS++[NB])[HS.length]?=some (NB):=by simp
  refine⟨(E2 _ _).trans hd0,(ia7 _ _).trans hsz,Xb4.puts hDS hi hsm _,ρ2,F',⟨hadv.ext,λid b hb=>?_,hadv.more,hadv.new,λid b' hb' hn=>?_⟩,?_,?_⟩
  ·have hidH:id<s.H.length:=by have:=(Qab.1 hb).1;omega
   have hne:id≠(U i).H.length:=by omega
   obtain⟨b',h1,h2⟩:=hadv.heap id b hb
   grind
  ·by_cases he:id=(U i).H.length
   ·subst he;rw[hρ2'];exact hadv.fresh HS.length _ hN λb hb=>by have:=(Qab.1 hb).1;omega
   ·rw[hρ2 id he];exact hadv.fresh id b' (hold id b' hb' he) hn
  ·refine a2.pull (λid=>if id=(U i).H.length then HS.length else id) (λid b hb hdd=>?_) λid id' b b' hb hdd hb' hdd' he=>?_
   ·grind
   grind
  ·have hA2 : Ia4 ρ2 HS' F' w' (vb8 (T ops.size).a s.a (ea5 ops listed)) ac.tmps := by
    refine hA.carry (λid b hb hdd=>?_) a1.more a1.ext.cells
    have hne:id≠(U i).H.length:=λe=>by
     subst e;rw[hHSdead b hb] at hdd;cases hdd
    obtain⟨b',h1,h2,h3,h4⟩:=a1.heap id b hb
    grind
   have hW:K8 ρ2 HS' F' w' (Ad6 (ba4 tr E.P ops i) (U i).H.length) x':=by
    have hV:Ad6 (ba4 tr E.P ops i) HS.length=.ptr HS.length 0 0 0/\Ad6 (ba4 tr E.P ops i) (U i).H.length=.ptr (U i).H.length 0 0 0\/Ad6 (ba4 tr E.P ops i) HS.length=.sl HS.length 0 0 0/\Ad6 (ba4 tr E.P ops i) (U i).H.length=.sl (U i).H.length 0 0 0:=by
     cases ba4 tr E.P ops i<;>first | exact .inl ⟨rfl,rfl⟩ | exact .inr ⟨rfl,rfl⟩
    rcases hV with⟨v1,v2⟩|⟨v1,v2⟩
    ·rw[v1] at a3;rw[v2];obtain⟨ad,b,e,h1,h2,h3,h4⟩:=Za9 a3
     have:b=NB:=Qag (h1.symm.trans hN)
     subst this;rw[e];refine .val (.cell (.ptr _ 0 0 0 ad _ hon nbd (Qbv _) λhg=>?_))
     rw[hρ2'];exact h4 hg
    ·rw[v1] at a3;rw[v2];obtain⟨ad,cap,b,e,h1,h2,h3,h4,h5,h6,h7⟩:=lb3 a3
     have:b=NB:=Qag (h1.symm.trans hN)
     subst this;rw[e];refine .val (.cell (.sl _ 0 0 0 ad cap _ hon nbd (Qbv _) h4 h5 h6 λhg=>?_))
     rw[hρ2'];exact h7 hg
   exact hA2.putA (oa0 ops i) hW
omit hin in
theorem wd4{ac:Act}(hI:Xb4 DS tm ds W ρ0 H0 F0 w0 s ac w) :
  Ac4 DS tm ds W ρ0 H0 F0 w0 tr E ops s.a U T 0 (Array.replicate ops.size false) ac { w with drawn:=w.drawn+1 }:=by
 have hnx:∀j,j<ops.size->¬ J1 (Array.replicate ops.size false) j:=λj hj h=>by
  unfold J1 at h;simp[Array.getD,hj] at h
 obtain⟨hd0,hsz,hsm,ρ,F,hAdv,hH,hA⟩:=hI;have hdead:∀id,W4 tr E.P ops U (Array.replicate ops.size false) id->s.H.length<=id:=λid ⟨b,h1,_,_,h4⟩=>by
  have:=(Qe7 hD hT (j:=b) (by omega)).1
  omega
 have hlow:∀id,id<s.H.length->(qa3 (T 0).H (W4 tr E.P ops U (Array.replicate ops.size false)))[id]?=s.H[id]?:=λid hid=>by
  rw[ea4 λh=>by have:=hdead id h;omega,hT.t0]
  exact (Qe7 hD hT (Qaf _)).2 id hid
 have hhigh:∀id b,(qa3 (T 0).H (W4 tr E.P ops U (Array.replicate ops.size false)))[id]?=some b->s.H.length<=id->b.dead=true:=λid b hb hge=>by
  have hlt:id<(T 0).H.length:=by
   have:=(Qab.1 hb).1
   rwa [Pb8] at this
  rw[hT.t0] at hlt;obtain⟨j,h1,h2,h3⟩:=uf0 hD hT ops.size (Qaf _) id hge hlt;rw[Ea9 (show W4 tr E.P ops U (Array.replicate ops.size false) id from ⟨j,h1,h2,hnx j h1,h3⟩)] at hb
  simp only[Qbm] at hb;obtain⟨c,_,rfl⟩:=hb;rfl
 have hH':J0 W ρ s.H F { w with drawn:=w.drawn+1 }:=hH.same rfl
 have hAdv':Adv W ρ0 H0 F0 w0 ρ s.H F { w with drawn:=w.drawn+1 }:=hAdv.trans (.same rfl rfl rfl rfl (Nat.le_succ _))
 let ρ1:Rho:=λid=>if id<s.H.length then ρ id else ⟨w.heap.size,0,0⟩
 have hρ1:∀id,id<s.H.length->ρ1 id=ρ id:=λid h=>if_pos h
 have hlive:∀id b,(qa3 (T 0).H (W4 tr E.P ops U (Array.replicate ops.size false)))[id]?=some b->b.dead=false->id<s.H.length:=λid b hb hd=>by
  rcases Qaq id s.H.length with h|h
  ·exact h
  ·rw[hhigh id b hb h] at hd;cases hd
 refine⟨by simp,λj hj hx=>absurd hx (hnx j hj),Qbv _,λj hj _=>⟨λh=>absurd h (hnx j hj),λh=>by omega⟩,hd0,hsz,hsm,ρ1,F,⟨hAdv'.ext,λid b hb=>?_,hAdv'.more,hAdv'.new,λid b hb hn=>?_⟩,?_,?_⟩
 ·have hid:id<s.H.length:=by have:=(Qab.1 hb).1;omega
  obtain⟨b',h1,h2⟩:=hAdv'.heap id b hb
  simp_all
 ·simp only at hb
  by_cases hid:id<s.H.length
  ·rw[hlow id hid] at hb;rw[hρ1 id hid];exact hAdv'.fresh id b hb hn
  ·show W (if id<s.H.length then ρ id else ⟨w.heap.size,0,0⟩).blk
   rw[if_neg hid];exact hH.new _ (Qaf _)
 ·refine hH'.pull (λid=>id) (λid b hb hd=>?_) λ_ _ _ _ _ _ _ _ h=>h
  grind
 ·have hcarry : ee1 ρ s.H ρ1 (qa3 (T 0).H (W4 tr E.P ops U (Array.replicate ops.size false))) := fun id b hb hd => by
   have hid:=(Qab.1 hb).1;exact⟨b,(hlow id hid).trans hb,hd,Qaf _,λ_=>⟨hρ1 id hid,rfl,Qaf _⟩⟩
  refine⟨by rw[xb7,(Dc8 hD hT ops.size (Qaf _)).2];exact hA.1,λt x x' hx hx'=>?_⟩
  simp only at hx
  by_cases ht:ea5 ops (Array.replicate ops.size false) t
  ·have hlt : t < (T ops.size).a.length := by
    have:=(Qab.1 hx).1
    rwa [xb7] at this
   rw[ed2 ht hlt] at hx;injection hx with hx;rw[(Dc8 hD hT ops.size (Qaf _)).2] at hlt;rw[Qaa hlt,Option.getD_some] at hx;exact K8.carry (w:=w) (w':={ w with drawn:=w.drawn+1 }) hcarry (λ_ _ h=>h) (λ_ _ _=>rfl) (hA.2 t x x' (by rw[<- hx];exact Qaa hlt) hx')
  ·rw[xb8 ht] at hx;have hno:∀j,j<ops.size->oa0 ops j≠some t:=λj hj he=>ht ⟨j,hj,he,hnx j hj⟩
   have h1:=Yc5 hD hT (t:=t) ops.size 0 (by omega) λj _ h2 _=>hno j (by omega)
   have h2:=ne3 hD hT (t:=t) ops.size 0 (by omega) λj _ h2 _=>hno j (by omega)
   rw[Qar] at h1 h2;rw[h1,hT.t0,h2,hT.u0] at hx;exact K8.carry (w:=w) (w':={ w with drawn:=w.drawn+1 }) hcarry (λ_ _ h=>h) (λ_ _ _=>rfl) (hA.2 t x x' hx hx')
omit hin hlen in
theorem Pc5{m:Nat}{listed:Array Bool}{ac:Act}(hR:Ac4 DS tm ds W ρ0 H0 F0 w0 tr E ops s.a U T m listed ac w)(hall:∀j,j<ops.size->J1 listed j):Xb4 DS tm ds W ρ0 H0 F0 w0 (T ops.size) ac w:=by
 have h1:vb8 (T ops.size).a s.a (ea5 ops listed)=(T ops.size).a:=Qe4 λt ⟨j,h1,_,h3⟩=>h3 (hall j h1)
 have h2:qa3 (T m).H (W4 tr E.P ops U listed)=(T ops.size).H:=by
  rw[Qe5 λid ⟨b,h1,_,h3,_⟩=>h3 (hall b h1)]
  have:=Qe9 hD hT (ops.size-m) m (by have:=hR.hm;omega) λj h3 h4 hk=>by
   have hj:j<ops.size:=by have:=hR.hm;omega
   have:=(hR.heavy j hj hk).1 (hall j hj)
   omega
  rw[show m+(ops.size-m)=ops.size by have:=hR.hm;omega] at this
  exact this.symm
 have h3:=hR.inv;rw[h1,h2] at h3;exact h3
variable(hpairs:Za8 E (T ops.size).a (Qa9 ops.size M ks)=true)(hG0:GOk E F0 w0)(hcalls:∀f,l8 E.P E.G f (E.call f))
include hpairs hG0 hcalls hF hDS
theorem Pc6{Q:Exit->Act->World->Prop}(hQ:∀ac' w',Xb4 DS tm ds W ρ0 H0 F0 w0 (T ops.size) ac' w'->Q .normal ac' w'):∀(fuel m:Nat) (listed:Array Bool) (ac:Act) (w:World),Ac4 DS tm ds W ρ0 H0 F0 w0 tr E ops s.a U T m listed ac w->P4 listed<=fuel->wpAnyIn Fe nn E.P .any ops Q fuel listed ac w
 |0,m,listed,ac,w,hR,hc=>by
  have hall:∀j,J1 listed j:=pb5 (by omega)
  refine⟨?_,hQ _ _ (Pc5 hD hT hR λj _=>hall j)⟩
  rw[Qea];intro i hi;exact (pc1 hi).2.1 (hall i)
 |fuel+1,m,listed,ac,w,hR,hc=>by
  refine⟨λh=>hQ _ _ (Pc5 hD hT hR (ee3 hD hR.size h)),λi hi=>?_⟩
  obtain⟨h1,h2,h3⟩:=pc1 hi;have hdi:∀j∈L3 (Sa0 ops i),J1 listed j:=λj hj=>h3 hR.size j hj (by have:=Pc2 hD.rows (xa7 h1) hj;omega)
  have hcount:P4 (listed.setIfInBounds i true)<=fuel:=by
   have his:i<listed.size:=by rw[hR.size];exact h1
   have hf:listed.toList[i]?=some false:=by
    have:listed.getD i true=false:=by unfold J1 at h2;simpa using h2
    simp_all
   have:=eb7 listed.toList i hf
   unfold P4 at hc ⊢
   grind
  rcases jc1 (tr:=tr) (P:=E.P) (ops:=ops) i with hk|hk|hk
  ·exact wd3 hD hT hin hlen hF hDS hG0 hcalls hR h1 hk h2 hdi λac' w' hR'=>Pc6 hQ fuel m _ ac' w' hR' hcount
  ·exact wd1 hD hT hin hpairs hF hDS hG0 hcalls hR h1 hk h2 hdi λac' w' hR'=>Pc6 hQ fuel m _ ac' w' hR' hcount
  ·exact wd2 hD hT hin hF hDS hG0 hcalls hR h1 hk h2 hdi λac' w' hR'=>Pc6 hQ fuel (i+1) _ ac' w' hR' hcount
end
section
variable{DS:Nat->Prop}{tm:Array Value}{ds:List Deferred}{Fe:Fence}{nn:Nat}{E:Env}
theorem bf1(hF:FW Fe)(hm:E.P.follows .mixedOrders=true)(hcalls:∀f,l8 E.P E.G f (E.call f)){W:Nat->Prop}{ρ0:Rho}{H0:List c7}{F0:Fz}{w0:World}{k:Nat}(hG0:GOk E F0 w0)
  {id:Nat} {ops:Array Oper} {s:St} {x:l4} {s':St} (hDS:∀j d,j<ops.size->oa0 ops j=some d->DS d) (hlen:H0.length<=s.H.length)
  (he:(M2 E k (bb6 E.P ops) s).run=some (x,s')) {ac:Act} {w:World} {Q:Exit->Act->World->Prop} (hI:Xb4 DS tm ds W ρ0 H0 F0 w0 s ac w)
  (hQ:∀ac' w',Xb4 DS tm ds W ρ0 H0 F0 w0 s' ac' w'->Q (toX x) ac' w'):(Code.region id ops true).wpIn Fe nn E.P Q ac w:=by
 have hdr:∃dsts asq l ps,bb6 E.P ops=.draw dsts asq l ps:=by
  unfold bb6 at he ⊢;have hT:∀tr,(∃a b c d,pb3 tr E.P ops=.draw a b c d)\/pb3 tr E.P ops=.bad:=λtr=>by
   unfold pb3
   simp only
   cases ye1 tr E.P ops (Region.before ops).toList 0 ops.toList with
   |none=>exact .inr rfl
   |some ks =>
    simp only[Gd4];split
    ·exact .inl ⟨_,_,_,_,rfl⟩
    ·exact .inr rfl
  revert he
  rcases hT 0 with⟨a,b,c,d,h0⟩|h0<;>rw[h0]<;>intro he
  ·exact⟨_,_,_,_,rfl⟩
  ·revert he
   rcases hT 1 with⟨a,b,c,d,h1⟩|h1<;>rw[h1]<;>intro he
   ·exact⟨_,_,_,_,rfl⟩
   ·revert he
    rcases hT 2 with⟨a,b,c,d,h2⟩|h2<;>rw[h2]<;>intro he
    ·exact⟨_,_,_,_,rfl⟩
    ·cases he
 obtain⟨dsts,asq,l,ps,hc⟩:=hdr;rw[hc] at he;obtain⟨tr,M,ks,hD,rfl,rfl,rfl,rfl⟩:=Be5 hc
 have he' : ((U4 E ((List.range ops.size).filterMap (Yb7 ks)) s).bind fun s => (U4 E ((List.range ops.size).filterMap (Tc8 ks)) s).bind fun s =>
   Bool.rec (motive:=λ_=>DT (l4×St)) .fail (Bool.rec (motive:=λ_=>DT (l4×St)) .fail (.ret (.normal,s)) (Yb4 s.a ((List.range ops.size).filterMap (Yb7 ks)))) (Za8 E s.a (Qa9 ops.size M ks))).run=some (x,s'):=he
 obtain⟨s1,h1,h2⟩:=DT.run_bind_some he';obtain⟨s2,h3,h4⟩:=DT.run_bind_some h2;obtain⟨U,u0,u1,u2⟩:=pb4 _ _ _ _ h1;obtain⟨T,t0,t1,t2⟩:=pb4 _ _ _ _ h3;have hT:Id6 E ops ks s U T:=⟨u0,u2,t0.trans u1.symm,t2⟩;cases hp:Za8 E s2.a (Qa9 ops.size M ks) with
 |false=>rw[hp] at h4;cases h4
 |true =>
 rw[hp] at h4
 simp only at h4
 cases hs:Yb4 s2.a ((List.range ops.size).filterMap (Yb7 ks)) with
 |false=>rw[hs] at h4;cases h4
 |true =>
 rw[hs] at h4;have h4':some (l4.normal,s2)=some (x,s'):=h4;injection h4' with h4';injection h4' with e1 e2;subst e1 e2
 rw[<- t1] at hp hs hQ;have hin:∀j,j<ops.size->R8 tr E.P ops j=0->∀d,oa0 ops j=some d->d<s.a.length:=λj hj hk d hd=>by
  rw[<- (Dc8 hD hT ops.size (Qaf _)).2];refine Yc6 hs (Sc2 tr E.P ops M j) ?_ d hd;rw[Qck];exact⟨j,Qca.2 hj,(me9 hD hj hk).1⟩
 refine wpIn_region_any hm (Pc6 hD hT hin hlen hF hDS hp hG0 hcalls hQ ops.size 0 _ ac _ (wd4 hD hT hlen hI) ?_);unfold P4;simp
end
section
variable{P:Program}{WB K:Nat->Prop}{J:List Value->World->Prop}{ρ0:Rho}{H0:List c7}{F0:Fz}{w w0:World}{s:St}{ac:Act}{E:Env}
theorem yf9{Fe:Fence}{n m kk id:Nat}(hm:E.P.follows .mixedOrders=true)(hF:FW Fe)(hG0:GOk E F0 w0)(hcalls:∀f,l8 E.P E.G f (E.call f))(hJ:Ec6 K J){ops:Array Oper}{Q:Exit->Act->World->Prop}{x:l4}{s':St}
  (hI:Kd0 E.P WB K J n ρ0 H0 F0 w0 s ac w) (he:(M2 E kk (.mask n (ops.toList.filterMap (·.dst)) (bb6 E.P ops)) s).run=some (x,s'))
  (hQ:∀ac' w',Kd0 E.P WB K J n ρ0 H0 F0 w0 s' ac' w'->ac'.defers=ac.defers->(∀t,¬ t∈ops.toList.filterMap (·.dst)->ac'.tmps[t]?=ac.tmps[t]?)->Q (toX x) ac' w'):(Code.region id ops true).wpIn Fe m E.P Q ac w:=by
 obtain⟨ρ,F,W',up,hI⟩:=hI;have he':((M2 E kk (bb6 E.P ops) ⟨s5 (na6 s.H) (J6 s.a n),A2 s.H⟩).bind λr=>.guard (Ac3 s.H r.2.H) (.ret (r.1,⟨ta4 (ops.toList.filterMap (·.dst)) s.a r.2.a 0,F8 s.H r.2.H⟩))).run=some (x,s'):=he
 obtain⟨⟨x1,s1⟩,h1,h2⟩:=DT.run_bind_some he';obtain⟨ho,h2⟩:=DT.run_guard_some h2;have h2:some (x1,(⟨ta4 (ops.toList.filterMap (·.dst)) s.a s1.a 0,F8 s.H s1.H⟩:St))=some (x,s'):=h2;injection h2 with h2;injection h2 with e1 e2;subst e1 e2
 have hG:GOk E F w:=hG0.adv hI.core.adv;refine bf1 (DS:=(·∈ops.toList.filterMap (·.dst))) (tm:=ac.tmps) (ds:=ac.defers) (W:=W') (ρ0:=ρ) (H0:=A2 s.H) (F0:=F) (w0:=w) hF hm hcalls hG (λj d hj hd=>?_) (Qaf _) h1 ⟨rfl,rfl,λ_ _=>rfl,ρ,F,.refl,hI.core.hrel,hI.arel⟩ λac' w' hM=>?_
 ·refine Qck.2 ⟨Sa0 ops j,?_,hd⟩
  have:=xa7 hj
  grind
 ·obtain⟨k1,k2,k3⟩:=od6 hJ hI ho hM;exact hQ ac' w' k1 k2 k3
end
structure Ord(ops:Array Oper)(m:Nat):Prop where
 sz:ops.size=m+1
 dep:∀j,j<=m->∀i∈L3 (opO ops j),i<j
 pur:∀j,j<m->Uc5 (opO ops j)=true
 uni:∀i j,i<m->j<m->i≠j->(opO ops i).dst≠(opO ops j).dst
 cov:∀i,i<m->∃j,i<j/\j<=m/\i∈L3 (opO ops j)
 use:∀j,j<m->∀x∈(opO ops j).op.operands,∀t,x=.tmp t->∀i,i<m->(opO ops i).dst=some t->i∈L3 (opO ops j)
theorem hg3{ops:Array Oper}(h:Nf6 ops=true):Ord ops (ops.size-1):=by
 simp only[Nf6,Qas,Qcc,Qca,Qch,List.any_eq_true] at h;obtain⟨⟨h0,h1⟩,h2⟩:=h;have hd:∀i j,i<j->j<ops.size-1->(opO ops i).dst≠(opO ops j).dst:=λi j hij hj=>by
  have:=(h2 j hj).2.2.1 i hij
  simpa using this
 refine⟨by omega,λj hj i hi=>h1 j (by omega) i hi,λj hj=>(h2 j hj).1,λi j hi hj hne=>?_,λi hi=>?_,λj hj x hx t e i hi ed=>?_⟩
 ·rcases Nat.lt_or_gt_of_ne hne with k|k
  ·exact hd i j k hj
  ·exact (hd j i k hi).symm
 ·obtain⟨k,hk,hik,hc⟩:=(h2 i hi).2.2.2.1;exact⟨k,hik,by omega,Qeh.1 hc⟩
 ·have:=(h2 j hj).2.2.2.2 x (Array.mem_toList_iff.2 hx)
  subst e;simp only[Qcc,Qca,Qci] at this
  rcases this i hi with k|k
  ·rw[ed] at k;simp at k
  ·exact Qeh.1 k
section
variable{ops:Array Oper}{m:Nat}{a0:Act}{V:Nat->Value}{L L':Nat->Prop}{ac ac':Act}
structure Pt(ops:Array Oper)(m:Nat)(a0:Act)(V:Nat->Value)(L:Nat->Prop)(ac:Act):Prop where
 dz:ac.defers=a0.defers
 sz:ac.tmps.size=a0.tmps.size
 on:∀i t,i<m->L i->(opO ops i).dst=some t->t<a0.tmps.size->ac.tmps[t]?=some (V i)
 off:∀t,(∀i,i<m->L i->(opO ops i).dst≠some t)->ac.tmps[t]?=a0.tmps[t]?
theorem Pt.agree(h:Pt ops m a0 V L ac)(h':Pt ops m a0 V L' ac'){t:Nat}(hb:∀i,i<m->(opO ops i).dst=some t->(L i↔L' i)):ac.tmps[t]?=ac'.tmps[t]?:=by
 by_cases hx:∃i,i<m/\L i/\(opO ops i).dst=some t
 ·obtain⟨i,h1,h2,h3⟩:=hx;by_cases ht:t<a0.tmps.size
  ·rw[h.on i t h1 h2 h3 ht,h'.on i t h1 ((hb i h1 h3).1 h2) h3 ht]
  ·rw[Qeg (by rw[h.sz];omega),Qeg (by rw[h'.sz];omega)]
 ·rw[h.off t λi h1 h2 h3=>hx ⟨i,h1,h2,h3⟩,h'.off t λi h1 h2 h3=>hx ⟨i,h1,(hb i h1 h3).2 h2,h3⟩]
theorem Pt.same(h:Pt ops m a0 V L ac)(h':Pt ops m a0 V L' ac')(hb:∀i,i<m->(L i↔L' i)):ac=ac':=by
 have e:ac.tmps=ac'.tmps:=Qej λt=>h.agree h' λi hi _=>hb i hi
 have d:ac.defers=ac'.defers:=h.dz.trans h'.dz.symm;cases ac;cases ac'
 simp only at e d
 rw[e,d]
theorem Pt.eval(h:Pt ops m a0 V L ac)(h':Pt ops m a0 V L' ac'){x:Operand}(hb:∀t,x=.tmp t->∀i,i<m->(opO ops i).dst=some t->(L i↔L' i)):ac.eval x=ac'.eval x:=by
 cases x with
 |tmp t =>
  show ac.tmps.getD t undef=ac'.tmps.getD t undef
  have:=h.agree h' (t:=t) (hb t rfl)
  simp only[Array.getD_eq_getD_getElem?,this]
 |const v=>rfl
 |func f=>rfl
 |global g=>rfl
theorem Pt.put(hO:Ord ops m)(h:Pt ops m a0 V L ac){j:Nat}(hj:j<m):Pt ops m a0 V (λi=>L i\/i=j) (ac.put (opO ops j).dst (V j)):=by
 refine⟨(E2 _ _).trans h.dz,(by cases hd:(opO ops j).dst<;>simp[Act.put,h.sz]),λi t hi hl hd ht=>?_,λt hn=>?_⟩
 ·by_cases e:i=j
  ·subst e;rw[hd];simp[Act.put,h.sz,ht]
  ·have hne:(opO ops j).dst≠some t:=λk=>hO.uni i j hi hj e (hd.trans k.symm)
   have:(ac.put (opO ops j).dst (V j)).tmps[t]?=ac.tmps[t]?:=by
    cases hdj:(opO ops j).dst with
    |none=>rfl
    |some d=>exact Qeb λk=>hne (by rw[hdj,k])
   rw[this];exact h.on i t hi (hl.resolve_right e) hd ht
 ·have hne:=hn j hj (.inr rfl)
  have:(ac.put (opO ops j).dst (V j)).tmps[t]?=ac.tmps[t]?:=by
   cases hdj:(opO ops j).dst with
   |none=>rfl
   |some d=>exact Qeb λk=>hne (by rw[hdj,k])
  rw[this];exact h.off t λi hi hl=>hn i hi (.inl hl)
theorem Pt.iff(h:Pt ops m a0 V L ac)(hb:∀i,i<m->(L i↔L' i)):Pt ops m a0 V L' ac :=
 ⟨h.dz,h.sz,λi t hi hl=>h.on i t hi ((hb i hi).2 hl),λt hn=>h.off t λi hi hl=>hn i hi ((hb i hi).1 hl)⟩
theorem Pt.val{V':Nat->Value}(h:Pt ops m a0 V L ac)(hb:∀i,i<m->L i->V i=V' i):Pt ops m a0 V' L ac :=
 ⟨h.dz,h.sz,λi t hi hl hd ht=>by rw[<- hb i hi hl];exact h.on i t hi hl hd ht,h.off⟩
end
section
variable{ops:Array Oper}{m:Nat}{P:Program}{Fe:Fence}{n:Nat}{Q:Exit->Act->World->Prop}{a0:Act}{w:World}
theorem yb3{j:Nat}(h:j<ops.size):ops[j]?=some (opO ops j):=by simp[opO,Array.getD,h]
theorem Yc8{o:Oper}(h:Uc5 o=true):o.guard=none:=by
 unfold Uc5 at h;rw[Qas] at h;cases hg:o.guard with
 |none=>rfl
 |some g=>rw[hg] at h;cases h.1
theorem Fc5{o:Oper}(h:Uc5 o=true):(∀cs b,o.op≠.select cs b)/\∀c,o.op≠.defer c:=by
 unfold Uc5 at h;rw[Qas] at h;exact⟨λcs b e=>(by rw[e] at h;cases h.2),λc e=>(by rw[e] at h;cases h.2)⟩
theorem chain(hO:Ord ops m)(hQ:∀c a w,¬ Q (.panic c) a w)(h:wpOpsIn Fe n P ops Q (List.range' 0 ops.size) a0 w):∀k,k<=m->∃V,(∃ac,Pt ops m a0 V (· < k) ac/\wpOpsIn Fe n P ops Q (List.range' k (ops.size-k)) ac w) /\
  ∀j,j<k->∃ac,Pt ops m a0 V (· < j) ac/\(execOp ac.eval (opO ops j)).run P w=.ok (.value (V j)) w
 |0,_=>⟨λ_=>undef,⟨a0,⟨rfl,rfl,λi t _ hl=>absurd hl (Nat.not_lt_zero _),λt _=>rfl⟩,h⟩,λj hj=>absurd hj (Nat.not_lt_zero _)⟩
 |k+1,hk=>by
  obtain⟨V,⟨ac,hp,hw⟩,hs⟩:=chain hO hQ h k (by omega)
  have hkm:k<m:=by omega
  have hpur:=hO.pur k hkm;have hsz:=hO.sz;rw[show ops.size-k=(ops.size-(k+1))+1 by omega,Qee,wpOpsIn_cons] at hw
  unfold wpOpIn at hw;rw[yb3 (show k<ops.size by omega)] at hw
  simp only[Region.wanted,Yc8 hpur,if_true] at hw;have hw:=hw.2;rw[Oper.semAt_eq _ _ _ (Fc5 hpur).2] at hw;cases hr:(execOp ac.eval (opO ops k)).run P w with
  |halt c w' =>
   rw[hr] at hw;cases c<;>first | exact hw.elim | exact (hQ _ _ _ hw).elim
  |ok x w' =>
   obtain⟨⟨v,rfl⟩,rfl⟩:=xf3 hpur hr;rw[hr] at hw;have hw:wpOpsIn Fe n P ops Q (List.range' (k+1) (ops.size-(k+1))) (ac.put (opO ops k).dst v) w':=hw;refine⟨λi=>if i=k then v else V i,⟨_,(Pt.put hO ((hp.val (V':=λi=>if i=k then v else V i)) λi _ hl=>?_) hkm).iff λi hi=>?_,?_⟩,λj hj=>?_⟩
   ·have:i<k:=hl
    rw[if_neg (by omega)]
   ·show (i<k\/i=k)↔i<k+1;omega
   ·rw[if_pos rfl];exact hw
   ·by_cases e:j=k
    ·subst e;exact⟨ac,hp.val λi _ hl=>(by rw[if_neg (Qan hl)]),by simpa using hr⟩
    ·obtain⟨acj,h1,h2⟩:=hs j (by omega)
     refine⟨acj,h1.val λi _ hl=>?_,by simpa [e] using h2⟩
     have:i<j:=hl
     rw[if_neg (by omega)]
theorem nf3(hO:Ord ops m){listed:Array Bool}(hsz:listed.size=ops.size):∀j,j<=m->¬ J1 listed j->∃i,i∈Region.ready .any ops listed:=by
 intro j
 induction j using Nat.strongRecOn with
 |_ j ih =>
  intro hj hn;by_cases hd:∀i∈L3 (opO ops j),J1 listed i
  ·refine⟨j,mem_ready.2 ⟨?_,opO ops j,yb3 (by have:=hO.sz;omega),λe he hb=>?_⟩⟩
   ·unfold J1 at hn;cases h:listed.getD j true with
    |false=>rfl
    |true=>exact absurd h hn
   ·have hx:=hd e.on (lb6.2 ⟨e,he,hb,rfl⟩);have hlt:e.on<listed.size:=by
     have:=hO.dep j hj e.on (lb6.2 ⟨e,he,hb,rfl⟩)
     have:=hO.sz
     omega
    unfold J1 at hx;simpa [Array.getD,hlt] using hx
  ·have : ∃ i ∈ L3 (opO ops j), ¬ J1 listed i := by
    apply Qec;intro hno;exact hd λi hi=>Qec λk=>hno ⟨i,hi,k⟩
   obtain⟨i,hi,hx⟩:=this
   have:=hO.dep j hj i hi
   exact ih i this (by omega) hx
theorem hg4(hO:Ord ops m)(hF:FW Fe)(hQ:∀c a w,¬ Q (.panic c) a w)(h:wpOpsIn Fe n P ops Q (List.range' 0 ops.size) a0 w):wpAnyIn Fe n P .any ops Q ops.size (Array.replicate ops.size false) a0 w:=by
 have hsz:=hO.sz;obtain⟨V,⟨aE,hpE,hwE⟩,hs⟩:=chain hO hQ h m (Qaf _);rw[show ops.size-m=1 by omega] at hwE
 have hwE:wpOpIn Fe n P ops Q m (wpOpsIn Fe n P ops Q []) aE w:=by rw[<- wpOpsIn_cons];exact hwE
 have key:∀(fuel:Nat) (listed:Array Bool) (ac:Act),listed.size=ops.size->(∀j,j<ops.size->J1 listed j->∀i∈L3 (opO ops j),J1 listed i)->¬ J1 listed m->Pt ops m a0 V (J1 listed) ac->P4 listed<=fuel->wpAnyIn Fe n P .any ops Q fuel listed ac w:=by
  intro fuel
  induction fuel with
  |zero =>
   intro listed ac _ _ hm _ hc;exact (hm (pb5 (by omega) m)).elim
  |succ fuel ih =>
   intro listed ac hls hcl hm hp hc;refine⟨λhr=>?_,λi hi=>?_⟩
   ·obtain⟨i,hi⟩:=nf3 hO hls m (Qaf _) hm;rw[hr] at hi;cases hi
   ·obtain⟨hi1,o,hio,hi2⟩:=mem_ready.1 hi;have hlt:i<ops.size:=(Qak.1 hio).1;obtain rfl:o=opO ops i:=Qag (hio.symm.trans (yb3 hlt));have hdi:∀k∈L3 (opO ops i),J1 listed k:=λk hk=>by
     obtain⟨e,he,hb,rfl⟩:=lb6.1 hk;have h1:=hi2 e he hb;unfold J1;have hlt':e.on<listed.size:=by
      have:=hO.dep i (by omega) e.on hk
      omega
     simpa [Array.getD,hlt'] using h1
    have hnx:¬ J1 listed i:=λhx=>by unfold J1 at hx;rw[hi1] at hx;cases hx
    have hil:i<listed.size:=by omega
    have hcount:P4 (listed.setIfInBounds i true)<=fuel:=by
     have h0:listed.toList[i]?=some false:=by
      simp only[Array.getD,hil,dif_pos] at hi1;simp[hil];simpa using hi1
     have:=eb7 listed.toList i h0
     unfold P4 at hc ⊢;rw[Array.toList_setIfInBounds];omega
    by_cases him:i=m
    ·subst him;have hall:∀d k,i-d<=k->k<i->J1 listed k:=λd=>by
      induction d with
      |zero=>intro k h1 h2;omega
      |succ d ihd =>
       intro k h1 h2;obtain⟨j,j1,j2,j3⟩:=hO.cov k h2;by_cases e:j=i
       ·subst e;exact hdi k j3
       ·exact hcl j (by omega) (ihd j (by omega) (by omega)) k j3
     have hac:ac=aE:=hp.same hpE λk hk=>⟨λ_=>hk,λ_=>hall i k (by omega) hk⟩
     rw[hac];refine wpOpIn_mono (λa' w' hq=>?_) hwE
     have hq:Q .normal a' w':=hq;have hr:Region.ready .any ops (listed.setIfInBounds i true)=[]:=by
      apply Qea.2;intro k hk;obtain⟨k1,ok,k2,_⟩:=mem_ready.1 hk;have hk':k<ops.size:=(Qak.1 k2).1
      have:J1 (listed.setIfInBounds i true) k:=(X7 hil).2 (by
       by_cases e:k=i
       ·exact .inr e
       ·exact .inl (hall i k (by omega) (by omega)))
      unfold J1 at this;rw[k1] at this;cases this
     cases fuel with
     |zero=>exact⟨hr,hq⟩
     |succ fuel=>exact⟨λ_=>hq,λk hk=>by rw[hr] at hk;cases hk⟩
    ·have hlm:i<m:=by omega
     have hpur:=hO.pur i hlm;obtain⟨acj,p1,p2⟩:=hs i hlm;have hev:execOp ac.eval (opO ops i)=execOp acj.eval (opO ops i):=execOp_congr _ (Fc5 hpur).1 λx hx=>hp.eval p1 λt e k hk hd=>by
      have hk':=hO.use i hlm x hx t e k hk hd
      have:=hO.dep i (by omega) k hk'
      exact⟨λ_=>this,λ_=>hdi k hk'⟩
     unfold wpOpIn;rw[hio];simp only[Region.wanted,Yc8 hpur,if_true];refine⟨λf _=>hF.fn f,?_⟩
     rw[Oper.semAt_eq _ _ _ (Fc5 hpur).2,hev,p2];show wpAnyIn Fe n P .any ops Q fuel (listed.setIfInBounds i true) (ac.put (opO ops i).dst (V i)) w;refine ih _ _ (by rw[Qed];exact hls) (λj hj hx k hk=>?_) (λhx=>?_) ((Pt.put hO hp hlm).iff λk _=>(X7 hil).symm) hcount
     ·rcases (X7 hil).1 hx with hx|rfl
      ·exact (X7 hil).2 (.inl (hcl j hj hx k hk))
      ·exact (X7 hil).2 (.inl (hdi k hk))
     ·rcases (X7 hil).1 hx with hx|e
      ·exact hm hx
      ·exact him e.symm
 have hnx:∀j,j<ops.size->¬ J1 (Array.replicate ops.size false) j:=λj hj hx=>by
  unfold J1 at hx;simp[Array.getD,hj] at hx
 refine key ops.size _ a0 (by simp) (λj hj hx=>absurd hx (hnx j hj)) (hnx m (by omega)) ⟨rfl,rfl,λi t hi hl=>absurd hl (hnx i (by omega)),λt _=>rfl⟩ ?_
 unfold P4;simp
end
theorem wd5:∀H:List c7,F8 H (A2 H)=H/\Ac3 H (A2 H)=true
 |[]=>⟨rfl,rfl⟩
 |b::H=>by
  obtain⟨h1,h2⟩:=wd5 H;have e:A2 (b::H)=Bool.rec (motive:=λ_=>c7) b { b with dead:=true } (I4 b)::A2 H:=rfl
  rw[e];have e1:∀c,F8 (b::H) (c::A2 H)=Bool.rec (motive:=λ_=>c7) c b (I4 b)::F8 H (A2 H):=λ_=>rfl
  have e2:∀c,Ac3 (b::H) (c::A2 H)=Bool.and (Bool.rec (motive:=λ_=>Bool) (Bool.rec true false (I4 c)) true (I4 b)) (Ac3 H (A2 H)):=λ_=>rfl
  rw[e1,e2,h1,h2];cases hb:I4 b with
  |true=>exact⟨rfl,rfl⟩
  |false=>exact⟨rfl,by simp[hb]⟩
section
variable{P:Program}{WB K:Nat->Prop}{J:List Value->World->Prop}{n:Nat}{S:HL}{rv:Value}{DF:List Deferred->Prop}{ρ0:Rho}{H0:List c7}{F0:Fz}{w0:World}{s:St}{ac:Act}{w:World}
theorem I3.drawn(h:I3 P WB K J n S rv DF ρ0 H0 F0 w0 s ac w)(hJ:Ec6 K J):I3 P WB K J n S rv DF ρ0 H0 F0 w0 s ac { w with drawn:=w.drawn+1 }:=by
 obtain⟨⟨ρ,F,W',up,hI⟩,h2,h3⟩:=h;obtain⟨e1,e2⟩:=wd5 s.H;obtain⟨c1,c2⟩:=hI.core.step (w':={ w with drawn:=w.drawn+1 }) hJ (.same rfl rfl rfl rfl (Nat.le_succ _)) e2 (hI.core.hrel.same rfl)
 rw[e1] at c1 c2;exact⟨⟨_,F,W',up,c1,⟨hI.vals.1,λi x x' hx hx'=>c2 x x' (hI.vals.2 i x x' hx hx')⟩,hI.size⟩,h2,h3⟩
end
def Yc9(Φ:Act->World->Prop)(F:Fence)(n:Nat)(P:Program)(md:Region.Mode)(ops:Array Oper)(Q:Exit->Act->World->Prop):Nat->Array Bool->Act->World->Prop
 |0,listed,a,w=>Φ a w/\Region.ready md ops listed=[]/\Q .normal a w
 |fuel+1,listed,a,w=>Φ a w/\(Region.ready md ops listed=[]->Q .normal a w) /\
  ∀i∈Region.ready md ops listed,wpOpIn F n P ops Q i (Yc9 Φ F n P md ops Q fuel (listed.setIfInBounds i true)) a w
section
variable{DS:Nat->Prop}{tm:Array Value}{ds:List Deferred}{Fe:Fence}{nn:Nat}
variable{W:Nat->Prop}{ρ0:Rho}{H0:List c7}{F0:Fz}{w0 w:World}
variable{tr:Nat}{E:Env}{ops:Array Oper}{M:List Nat}{ks:List (Nat×PI)}{s:St}{U T:Nat->St}
variable(hD:DC tr E.P ops M ks)(hT:Id6 E ops ks s U T)(hin:∀j,j<ops.size->R8 tr E.P ops j=0->∀d,oa0 ops j=some d->d<s.a.length)(hlen:H0.length<=s.H.length)
variable(hF:FW Fe)(hDS:∀j d,j<ops.size->oa0 ops j=some d->DS d)
variable(hpairs:Za8 E (T ops.size).a (Qa9 ops.size M ks)=true)(hG0:GOk E F0 w0)(hcalls:∀f,l8 E.P E.G f (E.call f))
include hD hT hin hlen hpairs hG0 hcalls hF hDS
theorem Pc7{Φ:Act->World->Prop}(hΦ:∀ac w,ac.tmps.size=tm.size->(∀t,¬ DS t->ac.tmps[t]?=tm[t]?)->Ext W F0 w0 w->Φ ac w){Q:Exit->Act->World->Prop}(hQ:∀ac' w',Xb4 DS tm ds W ρ0 H0 F0 w0 (T ops.size) ac' w'->Q .normal ac' w'):∀(fuel m:Nat) (listed:Array Bool) (ac:Act) (w:World),Ac4 DS tm ds W ρ0 H0 F0 w0 tr E ops s.a U T m listed ac w->P4 listed<=fuel->Yc9 Φ Fe nn E.P .any ops Q fuel listed ac w
 |0,m,listed,ac,w,hR,hc=>by
  have hall:∀j,J1 listed j:=pb5 (by omega)
  obtain⟨ρ,F,hA,_⟩:=hR.inv.rel;refine⟨hΦ ac w hR.inv.size hR.inv.same hA.ext,?_,hQ _ _ (Pc5 hD hT hR λj _=>hall j)⟩
  rw[Qea];intro i hi;exact (pc1 hi).2.1 (hall i)
 |fuel+1,m,listed,ac,w,hR,hc=>by
  obtain⟨ρ,F,hA,_⟩:=hR.inv.rel;refine⟨hΦ ac w hR.inv.size hR.inv.same hA.ext,λh=>hQ _ _ (Pc5 hD hT hR (ee3 hD hR.size h)),λi hi=>?_⟩
  obtain⟨h1,h2,h3⟩:=pc1 hi;have hdi:∀j∈L3 (Sa0 ops i),J1 listed j:=λj hj=>h3 hR.size j hj (by have:=Pc2 hD.rows (xa7 h1) hj;omega)
  have hcount:P4 (listed.setIfInBounds i true)<=fuel:=by
   have his:i<listed.size:=by rw[hR.size];exact h1
   have hf:listed.toList[i]?=some false:=by
    have:listed.getD i true=false:=by unfold J1 at h2;simpa using h2
    simp_all
   have:=eb7 listed.toList i hf
   unfold P4 at hc ⊢
   grind
  rcases jc1 (tr:=tr) (P:=E.P) (ops:=ops) i with hk|hk|hk
  ·exact wd3 hD hT hin hlen hF hDS hG0 hcalls hR h1 hk h2 hdi λac' w' hR'=>Pc7 hΦ hQ fuel m _ ac' w' hR' hcount
  ·exact wd1 hD hT hin hpairs hF hDS hG0 hcalls hR h1 hk h2 hdi λac' w' hR'=>Pc7 hΦ hQ fuel m _ ac' w' hR' hcount
  ·exact wd2 hD hT hin hF hDS hG0 hcalls hR h1 hk h2 hdi λac' w' hR'=>Pc7 hΦ hQ fuel (i+1) _ ac' w' hR' hcount
end
section
variable{DS:Nat->Prop}{tm:Array Value}{ds:List Deferred}{Fe:Fence}{nn:Nat}{E:Env}
theorem Of1(hF:FW Fe)(hcalls:∀f,l8 E.P E.G f (E.call f)){W:Nat->Prop}{ρ0:Rho}{H0:List c7}{F0:Fz}{w0:World}{k:Nat}(hG0:GOk E F0 w0)
  {ops:Array Oper} {s:St} {x:l4} {s':St} (hDS:∀j d,j<ops.size->oa0 ops j=some d->DS d) (hlen:H0.length<=s.H.length)
  (he:(M2 E k (bb6 E.P ops) s).run=some (x,s')) {ac:Act} {w:World} {Q:Exit->Act->World->Prop} (hI:Xb4 DS tm ds W ρ0 H0 F0 w0 s ac w)
  {Φ:Act->World->Prop} (hΦ:∀ac w,ac.tmps.size=tm.size->(∀t,¬ DS t->ac.tmps[t]?=tm[t]?)->Ext W F0 w0 w->Φ ac w)
  (hQ:∀ac' w',Xb4 DS tm ds W ρ0 H0 F0 w0 s' ac' w'->Q .normal ac' w'):x=.normal/\Yc9 Φ Fe nn E.P .any ops Q ops.size (Array.replicate ops.size false) ac { w with drawn:=w.drawn+1 }:=by
 have hdr:∃dsts asq l ps,bb6 E.P ops=.draw dsts asq l ps:=by
  unfold bb6 at he ⊢;have hT:∀tr,(∃a b c d,pb3 tr E.P ops=.draw a b c d)\/pb3 tr E.P ops=.bad:=λtr=>by
   unfold pb3
   simp only
   cases ye1 tr E.P ops (Region.before ops).toList 0 ops.toList with
   |none=>exact .inr rfl
   |some ks =>
    simp only[Gd4];split
    ·exact .inl ⟨_,_,_,_,rfl⟩
    ·exact .inr rfl
  revert he
  rcases hT 0 with⟨a,b,c,d,h0⟩|h0<;>rw[h0]<;>intro he
  ·exact⟨_,_,_,_,rfl⟩
  ·revert he
   rcases hT 1 with⟨a,b,c,d,h1⟩|h1<;>rw[h1]<;>intro he
   ·exact⟨_,_,_,_,rfl⟩
   ·revert he
    rcases hT 2 with⟨a,b,c,d,h2⟩|h2<;>rw[h2]<;>intro he
    ·exact⟨_,_,_,_,rfl⟩
    ·cases he
 obtain⟨dsts,asq,l,ps,hc⟩:=hdr;rw[hc] at he;obtain⟨tr,M,ks,hD,rfl,rfl,rfl,rfl⟩:=Be5 hc
 have he' : ((U4 E ((List.range ops.size).filterMap (Yb7 ks)) s).bind fun s => (U4 E ((List.range ops.size).filterMap (Tc8 ks)) s).bind fun s =>
   Bool.rec (motive:=λ_=>DT (l4×St)) .fail (Bool.rec (motive:=λ_=>DT (l4×St)) .fail (.ret (.normal,s)) (Yb4 s.a ((List.range ops.size).filterMap (Yb7 ks)))) (Za8 E s.a (Qa9 ops.size M ks))).run=some (x,s'):=he
 obtain⟨s1,h1,h2⟩:=DT.run_bind_some he';obtain⟨s2,h3,h4⟩:=DT.run_bind_some h2;obtain⟨U,u0,u1,u2⟩:=pb4 _ _ _ _ h1;obtain⟨T,t0,t1,t2⟩:=pb4 _ _ _ _ h3;have hT:Id6 E ops ks s U T:=⟨u0,u2,t0.trans u1.symm,t2⟩;cases hp:Za8 E s2.a (Qa9 ops.size M ks) with
 |false=>rw[hp] at h4;cases h4
 |true =>
 rw[hp] at h4
 simp only at h4
 cases hs:Yb4 s2.a ((List.range ops.size).filterMap (Yb7 ks)) with
 |false=>rw[hs] at h4;cases h4
 |true =>
 rw[hs] at h4;have h4':some (l4.normal,s2)=some (x,s'):=h4;injection h4' with h4';injection h4' with e1 e2;subst e1 e2
 rw[<- t1] at hp hs hQ;have hin:∀j,j<ops.size->R8 tr E.P ops j=0->∀d,oa0 ops j=some d->d<s.a.length:=λj hj hk d hd=>by
  rw[<- (Dc8 hD hT ops.size (Qaf _)).2];refine Yc6 hs (Sc2 tr E.P ops M j) ?_ d hd;rw[Qck];exact⟨j,Qca.2 hj,(me9 hD hj hk).1⟩
 refine⟨rfl,Pc7 hD hT hin hlen hF hDS hp hG0 hcalls hΦ hQ ops.size 0 _ ac _ (wd4 hD hT hlen hI) ?_⟩;unfold P4;simp
end
section
variable{P:Program}{WB K:Nat->Prop}{J:List Value->World->Prop}{ρ ρ0:Rho}{H0:List c7}{F F0:Fz}{w w0:World}{W':Nat->Prop}{up:List Value}{s:St}{ac:Act}{E:Env}
theorem fe5{Fe:Fence}{n m kk:Nat}(hF:FW Fe)(hG0:GOk E F0 w0)(hcalls:∀f,l8 E.P E.G f (E.call f))(hJ:Ec6 K J){ops:Array Oper}{dd:List Nat}(hdd:dd=ops.toList.filterMap (·.dst)){Q:Exit->Act->World->Prop}{x:l4}{s':St}
  (hI:I2 E.P WB K J n ρ0 H0 F0 w0 s ac w ρ F W' up) (he:(M2 E kk (.mask n dd (bb6 E.P ops)) s).run=some (x,s'))
  {Φ:Act->World->Prop} (hΦ:∀ac' w',ac'.tmps.size=ac.tmps.size->(∀t,¬ t∈dd->ac'.tmps[t]?=ac.tmps[t]?)->Ext W' F w w'->Φ ac' w')
  (hQ:∀ac' w',Kd0 E.P WB K J n ρ0 H0 F0 w0 s' ac' w'->ac'.defers=ac.defers->(∀t,¬ t∈dd->ac'.tmps[t]?=ac.tmps[t]?)->Q .normal ac' w'):x=.normal/\Yc9 Φ Fe m E.P .any ops Q ops.size (Array.replicate ops.size false) ac { w with drawn:=w.drawn+1 }:=by
 subst hdd;have he':((M2 E kk (bb6 E.P ops) ⟨s5 (na6 s.H) (J6 s.a n),A2 s.H⟩).bind λr=>.guard (Ac3 s.H r.2.H) (.ret (r.1,⟨ta4 (ops.toList.filterMap (·.dst)) s.a r.2.a 0,F8 s.H r.2.H⟩))).run=some (x,s'):=he
 obtain⟨⟨x1,s1⟩,h1,h2⟩:=DT.run_bind_some he';obtain⟨ho,h2⟩:=DT.run_guard_some h2;have h2:some (x1,(⟨ta4 (ops.toList.filterMap (·.dst)) s.a s1.a 0,F8 s.H s1.H⟩:St))=some (x,s'):=h2;injection h2 with h2;injection h2 with e1 e2;subst e1 e2
 have hG:GOk E F w:=hG0.adv hI.core.adv;refine Of1 (DS:=(·∈ops.toList.filterMap (·.dst))) (tm:=ac.tmps) (ds:=ac.defers) (W:=W') (ρ0:=ρ) (H0:=A2 s.H) (F0:=F) (w0:=w) hF hcalls hG (λj d hj hd=>?_) (Qaf _) h1 ⟨rfl,rfl,λ_ _=>rfl,ρ,F,.refl,hI.core.hrel,hI.arel⟩ hΦ λac' w' hM=>?_
 ·refine Qck.2 ⟨Sa0 ops j,?_,hd⟩
  have:=xa7 hj
  grind
 ·obtain⟨k1,k2,k3⟩:=od6 hJ hI ho hM;exact hQ ac' w' k1 k2 k3
end
theorem fe6(B:Nat->Bool)(m:Nat):∀(l:List Oper) (k:Nat),(wd0 B m k l).length=l.length
 |[],_=>rfl
 |_::r,k=>congrArg Nat.succ (fe6 B m r (k+1))
theorem fe7(B:Nat->Bool)(m:Nat):∀(l:List Oper) (k i:Nat),(wd0 B m k l)[i]?=(l[i]?).map λo=>Fc2 (B (k+i)||Nat.ble m (k+i)) o
 |[],_,_=>by simp[wd0]
 |o::r,k,0=>by simp[wd0]
 |o::r,k,i+1=>by
  simp only[wd0,List.getElem?_cons_succ];rw[fe7 B m r (k+1) i,show k+1+i=k+(i+1) by omega]
theorem pd5(B:Nat->Bool)(m:Nat)(ops:Array Oper):(Xb5 B m ops).size=ops.size:=by
 show (wd0 B m 0 ops.toList).length=_;rw[fe6];simp
theorem jc7(B:Nat->Bool)(m:Nat)(ops:Array Oper)(i:Nat):(Xb5 B m ops)[i]?=(ops[i]?).map λo=>Fc2 (B i||Nat.ble m i) o:=by
 have:=fe7 B m ops.toList 0 i
 rw[Qar] at this;simpa [Xb5] using this
theorem zf0{o:Oper}(h:od9 o=true):(∀cs b,o.op≠.select cs b)/\∀c,o.op≠.defer c :=
 ⟨λcs b e=>(by simp[od9,e] at h),λc e=>(by simp[od9,e] at h)⟩
structure Hst(ops:Array Oper)(m:Nat)(B:Nat->Bool):Prop where
 lt:m<=ops.size
 dep:∀j,j<ops.size->∀i∈L3 (opO ops j),i<j
 tail:∀j,m<=j->j<ops.size->∀i,i<j->i∈L3 (opO ops j)
 pure:∀j,j<m->B j=true->Uc5 (opO ops j)=true
 plain:∀j,j<m->B j=false->od9 (opO ops j)=true
 guard:∀j,j<m->B j=false->∀g b,(opO ops j).guard=some (g,b)->g<m/\B g=false/\∀t,(opO ops g).dst=some t->∀i,i<m->B i=true->(opO ops i).dst≠some t
 use:∀j,j<m->∀x∈(opO ops j).op.operands,∀t,x=.tmp t->∀i,i<m->B i=true->(opO ops i).dst=some t->i∈L3 (opO ops j)
section
variable{ops:Array Oper}{m:Nat}{B:Nat->Bool}{P:Program}{Fe:Fence}{n:Nat}{Q Q':Exit->Act->World->Prop}{Φ:Act->World->Prop}
theorem zf1{o:Oper}{a a':Act}{w:World}{K K':Act->World->Prop}(hp:od9 o=true)(he:∀x∈o.op.operands,a.eval x=a'.eval x)
  (hK:∀d v w2,K' ({ a' with defers:=d++a'.defers }.put o.dst v) w2->K ({ a with defers:=d++a.defers }.put o.dst v) w2) (hQ:∀c a w,¬ Q' (.panic c) a w) (hL:¬ LetsOut Q') (h:o.wpIn Fe n P a' w K' Q'):o.wpIn Fe n P a w K Q:=by
 obtain⟨hs,hd⟩:=zf0 hp;unfold Oper.wpIn at h ⊢;refine⟨λf hf=>h.1 f (by rw[<- about_congr o w he];exact hf),?_⟩
 have h2:=h.2;rw[Oper.semAt_eq _ _ _ hd] at h2 ⊢;rw[execOp_congr o hs he]
 revert h2
 generalize (execOp a'.eval o).run P w=r;intro h2;cases r with
 |ok q w' =>
  cases q with
  |value v=>exact hK [] _ _ h2
  |skip=>exact hK [] _ _ h2
  |defer d=>exact hK [d] _ _ h2
  | enter f args => exact ⟨h2.1, h2.2.mono fun e w'' he => by
    cases e with
    |returned v=>exact hK [] _ _ he
    |panicked ch=>exact absurd he (hQ _ _ _)
    |outgrown=>exact absurd he hL⟩
  |row row args=>exact⟨h2.1,h2.2.mono λv w'' he=>hK [] _ _ he⟩
  | round l f tmps asq body => exact ⟨h2.1, h2.2.mono fun e w'' he => by
    cases e with
    |returned v=>exact hK [] _ _ he
    |panicked ch=>exact absurd he (hQ _ _ _)
    |outgrown=>exact absurd he hL⟩
  |_=>exact h2.elim
 |halt x w' =>
  cases x with
  |panic v=>exact absurd h2 (hQ _ _ _)
  |_=>exact h2.elim
structure Rl(ops:Array Oper)(m:Nat)(B:Nat->Bool)(listed:Array Bool)(a a':Act):Prop where
 dz:a.defers=a'.defers
 sz:a.tmps.size=a'.tmps.size
 on:∀t,(∀i,i<m->B i=true->(opO ops i).dst=some t->J1 listed i)->a.tmps[t]?=a'.tmps[t]?
theorem Rl.eval{listed:Array Bool}{a a':Act}(h:Rl ops m B listed a a'){x:Operand}(hx:∀t,x=.tmp t->∀i,i<m->B i=true->(opO ops i).dst=some t->J1 listed i):a.eval x=a'.eval x:=by
 cases x with
 |tmp t =>
  show a.tmps.getD t undef=a'.tmps.getD t undef
  have:=h.on t (hx t rfl)
  simp_all
 |const v=>rfl
 |func f=>rfl
 |global g=>rfl
theorem oe9(a:Act)(dst:Option Tmp)(v:Value)(t:Nat):(a.put dst v).tmps[t]?=if dst=some t/\t<a.tmps.size then some v else a.tmps[t]?:=by
 cases dst with
 |none=>simp[Act.put]
 |some d =>
  by_cases e:d=t
  ·subst e;by_cases hd:d<a.tmps.size
   ·simp[Act.put,hd]
   ·simp[Act.put,hd]
  ·simp[Act.put,e,Qeb e]
theorem Rl.same{listed:Array Bool}{a a':Act}(h:Rl ops m B listed a a')(hall:∀i,i<m->J1 listed i):a=a':=by
 have e:a.tmps=a'.tmps:=Qej λt=>h.on t λi hi _ _=>hall i hi
 have d:=h.dz;cases a;cases a'
 simp only at e d
 rw[e,d]
theorem bf2{i:Nat}{o:Oper}{K:Act->World->Prop}{a:Act}{w:World}(ho:ops[i]?=some (De1 o))(h:wpOpIn Fe n P ops Q i K a w):K a w:=by
 unfold wpOpIn at h;rw[ho] at h;simp only[Region.wanted,De1,if_true] at h;have h2:=h.2;rw[Oper.semAt_eq _ _ _ (λc e=>by cases e)] at h2
 have e:(execOp a.eval { o with dst:=none,op:=Op.move (.const (.bool true)),guard:=none }).run P w=.ok (.value (.bool true)) w:=by simp[execOp,Act.eval]
 rw[e] at h2;exact h2
end
section
variable{ops:Array Oper}{m:Nat}{B:Nat->Bool}{P:Program}{Fe:Fence}{n:Nat}{Q Q':Exit->Act->World->Prop}{Φ:Act->World->Prop}
theorem Of2{listed:Array Bool}{i:Nat}(h:i∈Region.ready .any ops listed):i∈Region.ready .any (Xb5 B m ops) listed:=by
 obtain⟨h1,o,h2,h3⟩:=mem_ready.1 h;refine mem_ready.2 ⟨h1,Fc2 (B i||Nat.ble m i) o,by rw[jc7,h2];rfl,?_⟩
 cases B i||Nat.ble m i<;>exact h3
theorem Cb5{listed:Array Bool}(hsz:listed.size=ops.size){i:Nat}(h:i∈Region.ready .any ops listed):i<ops.size/\¬ J1 listed i/\∀k∈L3 (opO ops i),k<ops.size->J1 listed k:=by
 obtain⟨h1,o,h2,h3⟩:=mem_ready.1 h;have hlt:i<ops.size:=(Qak.1 h2).1;obtain rfl:o=opO ops i:=Qag (h2.symm.trans (yb3 hlt));refine⟨hlt,λhx=>(by unfold J1 at hx;rw[h1] at hx;cases hx),λk hk hk2=>?_⟩
 obtain⟨e,he,hb,rfl⟩:=lb6.1 hk
 have:=h3 e he hb
 unfold J1
 simp_all
theorem De6{listed:Array Bool}(hsz:listed.size=ops.size){i:Nat}(hi:i<ops.size)(hn:¬ J1 listed i)(hd:∀k∈L3 (opO ops i),k<ops.size/\J1 listed k):i∈Region.ready .any ops listed:=by
 refine mem_ready.2 ⟨?_,opO ops i,yb3 hi,λe he hb=>?_⟩
 ·unfold J1 at hn
  simp_all
 ·obtain⟨h1,h2⟩:=hd e.on (lb6.2 ⟨e,he,hb,rfl⟩);unfold J1 at h2
  simp_all
theorem pe0{listed:Array Bool}{j N:Nat}(hsz:listed.size=N)(h:∀x,j<=x->x<N->¬ J1 listed x):N-j<=P4 listed:=by
 unfold P4;rw[<- List.take_append_drop j listed.toList,List.filter_append,Qdc];have e:(listed.toList.drop j).filter (λb=>!b)=listed.toList.drop j:=by
  rw[List.filter_eq_self];intro b hb;obtain⟨k,hk,rfl⟩:=Qei.1 hb;rw[List.length_drop,Array.length_toList] at hk
  have:=h (j+k) (by omega) (by omega)
  unfold J1 at this;have hl:j+k<listed.size:=by omega
  simp_all
 grind
theorem Kd9{a:Act}{w:World}:∀(fuel:Nat) (listed:Array Bool),listed.size=ops.size->(∀j,j<m->J1 listed j)->Yc9 Φ Fe n P .any (Xb5 B m ops) Q' fuel listed a w->Q' .normal a w
 |0,listed,hsz,hall,h=>h.2.2
 |fuel+1,listed,hsz,hall,h=>by
  cases hr:Region.ready .any (Xb5 B m ops) listed with
  |nil=>exact h.2.1 hr
  |cons i r =>
   have hi:i∈Region.ready .any (Xb5 B m ops) listed:=by rw[hr];simp
   obtain⟨k1,k2,k3⟩:=Cb5 (by rw[pd5];exact hsz) hi
   rw[pd5] at k1;have him:m<=i:=Qef λhh=>k2 (hall i hh)
   have ho:(Xb5 B m ops)[i]?=some (De1 (opO ops i)):=by
    rw[jc7,yb3 k1]
    have:(B i||Nat.ble m i)=true:=by rw[Nat.ble_eq_true_of_le him];simp
    simp only[Option.map_some,this,Fc2]
   refine Kd9 fuel (listed.setIfInBounds i true) (by rw[Qed];exact hsz) (λj hj=>?_) (bf2 ho (h.2.2 i hi))
   exact (X7 (by rw[hsz];exact k1)).2 (.inl (hall j hj))
theorem bf3(hH:Hst ops m B):∀(k fuel j:Nat) (listed:Array Bool) (a:Act) (w:World),j+k=ops.size->m<=j->listed.size=ops.size->(∀i,i<j->J1 listed i)->(∀i,j<=i->i<ops.size->¬ J1 listed i)->k<=fuel ->
  wpOpsIn Fe n P ops Q (List.range' j k) a w->wpAnyIn Fe n P .any ops Q fuel listed a w
 |0,fuel,j,listed,a,w,hj,hm,hsz,h1,h2,hf,h=>by
  have hr:Region.ready .any ops listed=[]:=by
   apply Qea.2;intro i hi;obtain⟨k1,k2,_⟩:=Cb5 hsz hi;exact k2 (h1 i (by omega))
  cases fuel with
  |zero=>exact⟨hr,h⟩
  |succ f=>exact⟨λ_=>h,λi hi=>(by rw[hr] at hi;cases hi)⟩
 |k+1,0,j,listed,a,w,hj,hm,hsz,h1,h2,hf,h=>by omega
 |k+1,fuel+1,j,listed,a,w,hj,hm,hsz,h1,h2,hf,h=>by
  have hjl:j<ops.size:=by omega
  have hmem:j∈Region.ready .any ops listed:=De6 hsz hjl (h2 j (Qaf _) hjl) λi hi=>by
   have:=hH.dep j hjl i hi
   exact⟨by omega,h1 i this⟩
  refine⟨λhr=>(by rw[hr] at hmem;cases hmem),λi hi=>?_⟩
  obtain⟨k1,k2,k3⟩:=Cb5 hsz hi;have hij:j<=i:=Qef λhh=>k2 (h1 i hh)
  have e:i=j:=by
   rcases Qaq j i with hh|hh
   ·exact absurd (k3 j (hH.tail i (by omega) k1 j hh) hjl) (h2 j (Qaf _) hjl)
   ·omega
  subst e;rw[Qee,wpOpsIn_cons] at h;refine wpOpIn_mono (λa' w' h'=>?_) h
  refine bf3 hH k fuel (i+1) _ a' w' (by omega) (by omega) (by rw[Qed];exact hsz) (λx hx=>?_) (λx hx hxl hc=>?_) (by omega) h'
  ·refine (X7 (by omega)).2 ?_
   grind
  ·rcases (X7 (by omega)).1 hc with hc|hc
   ·grind
   ·omega
theorem Se3(hH:Hst ops m B)(hF:FW Fe)(hB:∀i,i<m->B i=true->∀a w,Φ a w->∀d,(opO ops i).dst=some d->(execOp a.eval (opO ops i)).run P w=.ok (.value (a.tmps.getD d undef)) w)
  (hdst:∀i,i<m->B i=true->∃d,(opO ops i).dst=some d) (hQ1:∀c a w,¬ Q' (.panic c) a w) (hQ2:¬ LetsOut Q') (hQ:∀a w,Q' .normal a w->wpOpsIn Fe n P ops Q (List.range' m (ops.size-m)) a w) :
  ∀(fuel:Nat) (listed:Array Bool) (a a':Act) (w:World),listed.size=ops.size->(∀j,j<ops.size->J1 listed j->∀i∈L3 (opO ops j),J1 listed i)->(∀j,m<=j->j<ops.size->¬ J1 listed j)->Rl ops m B listed a a'->P4 listed<=fuel ->
  Yc9 Φ Fe n P .any (Xb5 B m ops) Q' fuel listed a' w->wpAnyIn Fe n P .any ops Q fuel listed a w
 |0,listed,a,a',w,hsz,hcl,hnt,hR,hc,h=>by
  have hall:=pb5 (listed:=listed) (by omega)
  have hm:ops.size-m=0:=by
   simp_all
  obtain rfl:a=a':=hR.same λi _=>hall i
  have hq:=hQ _ _ h.2.2;rw[hm] at hq;refine⟨?_,hq⟩;apply Qea.2;intro i hi;exact (Cb5 hsz hi).2.1 (hall i)
 |fuel+1,listed,a,a',w,hsz,hcl,hnt,hR,hc,h=>by
  have hex:∀j,j<ops.size->¬ J1 listed j->∃i,i∈Region.ready .any ops listed:=by
   intro j
   induction j using Nat.strongRecOn with
   |_ j ih =>
    intro hj hn;by_cases hd:∀i∈L3 (opO ops j),J1 listed i
    ·exact⟨j,De6 hsz hj hn λi hi=>⟨by have:=hH.dep j hj i hi;omega,hd i hi⟩⟩
    ·have : ∃ i ∈ L3 (opO ops j), ¬ J1 listed i := by
      simp_all
     obtain⟨i,hi,hx⟩:=this
     have:=hH.dep j hj i hi
     grind
  refine⟨λhr=>?_,λi hi=>?_⟩
  ·have hall : ∀ j, j < ops.size → J1 listed j := fun j hj => Qec fun hn => by
    obtain⟨i,hi⟩:=hex j hj hn;rw[hr] at hi;cases hi
   have hm:ops.size-m=0:=by
    simp_all
   have hle:=hH.lt;obtain rfl:a=a':=hR.same λi hi=>hall i (by omega)
   have hq:=hQ _ _ (Kd9 (fuel+1) listed hsz (λj hj=>hall j (by omega)) h)
   rw[hm] at hq;exact hq
  obtain⟨hlt,hnx,hdx⟩:=Cb5 hsz hi;have hdi:∀k∈L3 (opO ops i),J1 listed k:=λk hk=>hdx k hk (by have:=hH.dep i hlt k hk;omega)
  have hil:i<listed.size:=by omega
  have hcount:P4 (listed.setIfInBounds i true)+1<=fuel+1:=by
   have h0:listed.toList[i]?=some false:=by
    have:listed.getD i true=false:=by unfold J1 at hnx;simpa using hnx
    simp_all
   have:=eb7 listed.toList i h0
   unfold P4 at hc ⊢
   simp_all
  have hsz':(listed.setIfInBounds i true).size=ops.size:=by rw[Qed];exact hsz
  have hcl':∀j,j<ops.size->J1 (listed.setIfInBounds i true) j->∀k∈L3 (opO ops j),J1 (listed.setIfInBounds i true) k:=λj hj hx k hk=>by
   rcases (X7 hil).1 hx with hx|rfl
   ·exact (X7 hil).2 (.inl (hcl j hj hx k hk))
   ·exact (X7 hil).2 (.inl (hdi k hk))
  rcases Qaq i m with him|him
  case inr =>
   have hall:∀k,k<i->J1 listed k:=λk hk=>hdi k (hH.tail i him hlt k hk)
   have e:i=m:=by
    rcases Qaq m i with hh|hh
    ·exact absurd (hall m hh) (hnt m (Qaf _) (by omega))
    ·omega
   subst e;obtain rfl:a=a':=hR.same hall;have hq:=hQ _ _ (Kd9 (fuel+1) listed hsz hall h);have hk:ops.size-i=(ops.size-(i+1))+1:=by omega
   rw[hk,Qee,wpOpsIn_cons] at hq;refine wpOpIn_mono (λa2 w2 h2=>?_) hq
   refine bf3 hH (ops.size-(i+1)) fuel (i+1) _ a2 w2 (by omega) (by omega) hsz' (λx hx=>?_) (λx hx hxl hc2=>?_) ?_ h2
   ·refine (X7 hil).2 ?_
    rcases Qaq x i with hh|hh
    ·exact .inl (hall x hh)
    ·exact .inr (by omega)
   ·rcases (X7 hil).1 hc2 with hc2|hc2
    ·exact hnt x (by omega) hxl hc2
    ·omega
   ·have hge : ops.size - (i + 1) ≤ P4 (listed.setIfInBounds i true) := by
     refine pe0 hsz' λx hx hxl hc2=>?_
     rcases (X7 hil).1 hc2 with hc2|hc2
     ·exact hnt x (by omega) hxl hc2
     ·omega
    omega
  have hnt':∀j,m<=j->j<ops.size->¬ J1 (listed.setIfInBounds i true) j:=λj hj hjl hx=>by
   rcases (X7 hil).1 hx with hx|hx
   ·exact hnt j hj hjl hx
   ·omega
  have hsim:=h.2.2 i (Of2 hi);cases hb:B i with
  |true =>
   obtain⟨d,hd⟩:=hdst i him hb;have hpur:=hH.pure i him hb;have ho:(Xb5 B m ops)[i]?=some (De1 (opO ops i)):=by
    rw[jc7,yb3 hlt];simp only[Option.map_some,hb,Bool.true_or,Fc2]
   have hs:=bf2 ho hsim;have hev:execOp a.eval (opO ops i)=execOp a'.eval (opO ops i):=execOp_congr _ (Fc5 hpur).1 λx hx=>hR.eval λt e k hk hbk hdk=>hdi k (hH.use i him x hx t e k hk hbk hdk)
   have hrun:=hB i him hb a' w h.1 d hd;unfold wpOpIn;rw[yb3 hlt];simp only[Region.wanted,Yc8 hpur,if_true];refine⟨λf _=>hF.fn f,?_⟩
   rw[Oper.semAt_eq _ _ _ (Fc5 hpur).2,hev,hrun];show wpAnyIn Fe n P .any ops Q fuel (listed.setIfInBounds i true) (a.put (opO ops i).dst (a'.tmps.getD d undef)) w;refine Se3 hH hF hB hdst hQ1 hQ2 hQ fuel _ _ a' w hsz' hcl' hnt' ⟨(E2 _ _).trans hR.dz,(ia7 _ _).trans hR.sz,λt ht=>?_⟩ (by omega) hs
   rw[hd,oe9];by_cases e:some d=some t/\t<a.tmps.size
   ·rw[if_pos e];obtain⟨e1,e2⟩:=e;injection e1 with e1;subst e1
    have:d<a'.tmps.size:=by rw[<- hR.sz];exact e2
    simp[Array.getD,this]
   ·rw[if_neg e];by_cases e3:d=t
    ·subst e3
     have:¬ d<a.tmps.size:=λhh=>e ⟨rfl,hh⟩
     have h1:a.tmps.size<=d:=Qef this;have h2:a'.tmps.size<=d:=by rw[<- hR.sz];exact h1
     grind
    ·refine hR.on t λk hk hbk hdk=>?_
     rcases (X7 hil).1 (ht k hk hbk hdk) with hx|rfl
     ·exact hx
     grind
  |false =>
   have hpl:=hH.plain i him hb;have ho:(Xb5 B m ops)[i]?=some (opO ops i):=by
    rw[jc7,yb3 hlt]
    have:(B i||Nat.ble m i)=false:=by
     rw[hb];cases hh:Nat.ble m i with
     |false=>rfl
     |true=>have:=Qae hh;omega
    simp only[Option.map_some,this,Fc2]
   have hwant:Region.wanted (opO ops i) (yielded ops a.tmps)=Region.wanted (opO ops i) (yielded (Xb5 B m ops) a'.tmps):=by
    unfold Region.wanted;cases hg:(opO ops i).guard with
    |none=>rfl
    |some gw =>
     obtain⟨g,want⟩:=gw;obtain⟨g1,g2,g3⟩:=hH.guard i him hb g want hg
     have:yielded ops a.tmps g=yielded (Xb5 B m ops) a'.tmps g:=by
      unfold yielded;have e1:(Xb5 B m ops)[g]?=ops[g]?:=by
       rw[jc7]
       have:(B g||Nat.ble m g)=false:=by
        rw[g2];cases hh:Nat.ble m g with
        |false=>rfl
        |true=>have:=Qae hh;omega
       cases ops[g]? with
       |none=>rfl
       |some o=>simp only[Option.map_some,this,Fc2]
      rw[e1];cases ht:(ops[g]?).bind (·.dst) with
      |none=>rfl
      |some t =>
       have hgl:g<ops.size:=by have:=hH.lt;omega
       rw[yb3 hgl] at ht;simp only[Option.bind_some] at ht ⊢;rw[hR.on t λk hk hbk hdk=>absurd hdk (g3 t ht k hk hbk)]
     simp only[this]
   have hev:∀x∈(opO ops i).op.operands,a.eval x=a'.eval x:=λx hx=>hR.eval λt e k hk hbk hdk=>hdi k (hH.use i him x hx t e k hk hbk hdk)
   have hput:∀(d:List Deferred) v,Rl ops m B (listed.setIfInBounds i true) ({ a with defers:=d++a.defers }.put (opO ops i).dst v) ({ a' with defers:=d++a'.defers }.put (opO ops i).dst v):=λd v=>by
    refine⟨by rw[E2,E2];show d++a.defers=d++a'.defers;rw[hR.dz],by rw[ia7,ia7];exact hR.sz,λt ht=>?_⟩
    rw[oe9,oe9];show (if (opO ops i).dst=some t/\t<a.tmps.size then some v else a.tmps[t]?)=if (opO ops i).dst=some t/\t<a'.tmps.size then some v else a'.tmps[t]?
    rw[hR.sz];split
    ·rfl
    ·refine hR.on t λk hk hbk hdk=>?_
     rcases (X7 hil).1 (ht k hk hbk hdk) with hx|rfl
     ·exact hx
     ·rw[hb] at hbk;cases hbk
   have hput0:∀v,Rl ops m B (listed.setIfInBounds i true) (a.put (opO ops i).dst v) (a'.put (opO ops i).dst v):=λv=>hput [] v
   have hnext:∀a2 a2' w2,Rl ops m B (listed.setIfInBounds i true) a2 a2'->Yc9 Φ Fe n P .any (Xb5 B m ops) Q' fuel (listed.setIfInBounds i true) a2' w2->wpAnyIn Fe n P .any ops Q fuel (listed.setIfInBounds i true) a2 w2:=λa2 a2' w2 hr h2=>Se3 hH hF hB hdst hQ1 hQ2 hQ fuel _ a2 a2' w2 hsz' hcl' hnt' hr (by omega) h2
   unfold wpOpIn at hsim ⊢;rw[ho] at hsim;rw[yb3 hlt];simp only[hwant] at hsim ⊢;split
   ·rename_i hw;rw[if_pos hw] at hsim;exact zf1 hpl hev (λd v w2 h2=>hnext _ _ _ (hput d v) h2) hQ1 hQ2 hsim
   ·rename_i hw;rw[if_neg hw] at hsim;exact⟨λf _=>hF.fn f,hnext _ _ _ (hput0 _) hsim.2⟩
end
end Go.Ev
