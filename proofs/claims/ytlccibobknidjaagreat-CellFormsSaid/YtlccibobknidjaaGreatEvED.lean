/- Own work: a part of the proof. -/
import Derived.Test.YtlccibobknidjaaGreatEvD8
import Derived.Shelf.SlSortCmp.WholeK
import Derived.Test.YtlccibobknidjaaGreatEvSp3
import Derived.KernelRfl
import Derived.ChangeStays
import Derived.ChangeSame
import Derived.OpenShut
import Derived.RowKit
set_option linter.unusedVariables false
set_option linter.unusedSimpArgs false
set_option linter.unnecessarySimpa false
set_option linter.unusedSectionVars false
namespace Go.Ev.Ce
open Go Go.Ev Go.Ev.L Go.Proofs
theorem Rd4 (v:V3):wb9 v=inV v∧xb0 v=true:=by
 have h3:[v.x,v.y,v.z].length≤1000000000:=by simp
 have:db8 v=some (b (inV v),[]):=by
  unfold db8 inV
  simp only[fc7 24 _ (by omega) h3,fc8 24 _ (by omega) h3,p5]
  simp only[List.all_cons,List.all_nil,Bool.and_true]
 unfold wb9 xb0
 rw[this]
 exact⟨rfl,rfl⟩
noncomputable def has (c:List Pln) (v:V3):Bool:=(chk c==0)&&(inV v&&inn c ⟨v.x,v.y,v.z,1⟩)
theorem Rd5 {c:List Pln} (hc:c.length≤1000000000) (v:V3):db9 c v=some (b (has c v),[]):=by
 unfold db9 has
 simp only[m8,K6,Zb2 c hc,Zb3 c hc,(Rd4 v).1,(Rd4 v).2,yc8 c _ hc,yc9 c _ hc]
 cases chk c==0 with
 | false=>rfl
 | true=>cases inV v<;>rfl
theorem ve5 {c:List Pln} (hc:c.length≤1000000000) (v:V3):eb0 c v=has c v:=by unfold eb0;rw[Rd5 hc];rfl
theorem ve6 {c:List Pln} (hc:c.length≤1000000000) (v:V3):eb1 c v=true:=by unfold eb1;rw[Rd5 hc];rfl
theorem Rd6 {a c:List Pln} (ha:(chk a==0)=true) (hc:(chk c==0)=true):Bds (a++c++ws)∧(a++c++ws).length≤200:=by
 rw[beq_iff_eq,jd7] at ha hc
 refine⟨fun p hp=>?_,by rw[List.length_append,List.length_append,show ws.length=6 from rfl];omega⟩
 rcases List.mem_append.1 hp with hp | hp
 ·rcases List.mem_append.1 hp with hp | hp
  ·exact Wc5 (ha.2 p hp)
  ·exact Wc5 (hc.2 p hp)
 ·exact fe5 p hp
noncomputable def apart (a c:List Pln):Bool:=!((chk a==0)&&(chk c==0))||!kd4 (a++c++ws)
theorem nd6 {a c:List Pln} (ha:a.length≤100000000) (hc:c.length≤100000000):Ja8 a c=some (b (apart a c),[]):=by
 have hn:[a,c].length≤1000000000:=by simp
 have hl:∀ x∈[a,c],x.length≤1000000000:=by
  intro x hx
  simp only[List.mem_cons,List.not_mem_nil,or_false] at hx
  rcases hx with rfl | rfl<;>omega
 have hf:[a,c].flatten=a++c:=by simp
 have hfl:[a,c].flatten.length≤1000000000:=by rw[hf,List.length_append];omega
 unfold Ja8 apart
 simp only[m8,K6,kd2 _ hn hl,kd3 _ hn hl,ue5 _ hn hfl,ue6 _ hn hfl,hf,List.all_cons,List.all_nil,Bool.and_true]
 cases h1:chk a==0 with
 | false=>rfl
 | true =>
  cases h2:chk c==0 with
  | false=>rfl
  | true =>
   obtain⟨q1,q2⟩:=Rd6 h1 h2
   rw[Pd1 _ q1 q2,Pd2 _ q1 q2]
   rfl
theorem be1 {a c:List Pln} (ha:a.length≤100000000) (hc:c.length≤100000000):Ja9 a c=apart a c:=by unfold Ja9;rw[nd6 ha hc];rfl
theorem be2 {a c:List Pln} (ha:a.length≤100000000) (hc:c.length≤100000000):Ka0 a c=true:=by unfold Ka0;rw[nd6 ha hc];rfl
noncomputable def Rd7 (a c:List Pln):Bool:=ful a&&((chk c==0)&&(pts a).all (inn c))
theorem vd2 (x:Pt) (c:List Pln) (hc:c.length≤1000000000):Ca8 ⟨x.px,x.py,x.pz,x.pw,c⟩=⟨1,!inn c x⟩:=by
 unfold Ca8 ea4
 simp only[m8,K6,p5]
 show sl (S8 c x) (oa7.mk 1 (!S7 c x)) _=_
 rw[yc8 c x hc,yc9 c x hc]
 rfl
theorem Qc0 {a c:List Pln} (ha:a.length≤1000000000) (hc:c.length≤1000000000):Ba4 a c=some (b (Rd7 a c),[]):=by
 have hX:=Zb9 a
 have h:=ib4 (step:=D7 ⟨pts a,((pts a).length:Int)⟩) (mk:=fun j=>(⟨(j:Int),c⟩:n9)) (c:=fun x=>!inn c x) (u:=1) (fin:=2) tX (pts a) (by omega)
  (fun j hj=>by
   simp only[D7,B4,Int.toNat_natCast,m8,o0,vd2 _ _ hc,p4 hj (show (pts a).length≤4611686018427387904 by omega)]
   rw[btD (o2 hj),bt (f7 hj)]
   rfl)
  (by simp only[D7,B4];rw[bfD (U5 (Nat.lt_irrefl _))]) 0 (Nat.zero_le _)
 rw[List.drop_zero] at h
 have e:((pts a).any fun x=>!inn c x)=!(pts a).all (inn c):=by rw[List.not_all_eq_any_not]
 unfold Ba4 X6 y8 da8 C3 Rd7
 simp only[m8,o0,K6,gc1 ha,gc2 ha,Zb2 c hc,Zb3 c hc,qb3 ha,qb4 ha]
 rw[show (⟨0,c⟩:n9)=⟨((0:Nat):Int),c⟩ from rfl,h,e]
 cases ful a with
 | false=>rfl
 | true =>
  cases chk c==0 with
  | false=>rfl
  | true =>
   cases (pts a).all (inn c) with
   | true=>rfl
   | false =>
    simp only[Bool.not_false,if_true,Nat.zero_add]
    show some (b (!(decide ((((pts a).findIdx fun x=>!inn c x:Nat):Int)≥0))),[])=_
    rw[show decide ((((pts a).findIdx fun x=>!inn c x:Nat):Int)≥0)=true from decide_eq_true (by omega)]
    rfl
theorem Rd8 {a c:List Pln} (ha:a.length≤1000000000) (hc:c.length≤1000000000):Ba5 a c=Rd7 a c:=by unfold Ba5;rw[Qc0 ha hc];rfl
theorem Rd9 {a c:List Pln} (ha:a.length≤1000000000) (hc:c.length≤1000000000):Ba6 a c=true:=by unfold Ba6;rw[Qc0 ha hc];rfl
end Go.Ev.Ce
namespace Go.Ev.L
open Go Go.Ev Go.Sort Go.Proofs
section
variable {α:Type} [Inhabited α] {P:Program} {G:Nat→List Value} {g:FuncId} {S:Sum} {t:Ty α} {enc:α→List Value} {cf:α→α→Int}
theorem be3 (hc : g7 P G g S) (hS : ∀ x y, (S [.agg (t.row x), .agg (t.row y)] []).run = some (i (cf x y), [])) (hG : ∀ n, G n = []) (he : ∀ x, t.row x = (enc x).map .v) (k blk off size : Nat) (w : World) :
  CmpLays P g #[] enc k cf blk off size w:=by
 intro m os dk _ x y
 generalize sortWorldK enc k w blk off m dk os=w0
 have hrow:∀ (z:α),Y1 (fun _=>⟨0,0,0⟩) [] (fun _ _=>False) w0 (.agg (t.row z)) (.agg (enc z).toArray):=fun z=>by
  refine .agg _ _ (by rw[he];simp) fun i u u' hu hu'=>?_
  rw[he,List.getElem?_map] at hu
  have hu':(enc z)[i]?=some u':=by simpa using hu'
  rw[hu'] at hu
  injection hu with hu
  subst hu
  exact .v _
 obtain⟨_,h⟩:=hc _ _ _ _ (hS x y) (fun k=>w0.heap.size≤k) (fun _=>⟨0,0,0⟩) (fun _ _=>False) w0 [.agg (enc x).toArray,.agg (enc y).toArray]
  ⟨fun id b hb=>by simp at hb,fun id id' b b' hb=>by simp at hb,fun b o hf=>hf.elim,fun k hk=>hk⟩ rfl
  (fun i u u' hu hu'=>by
   match i,hu,hu' with
   | 0,hu,hu'=>cases hu;cases hu';exact .val (hrow x)
   | 1,hu,hu'=>cases hu;cases hu';exact .val (hrow y))
  (fun n c v hv=>by rw[hG] at hv;simp at hv)
 refine h.mono fun e w' ⟨r',h1,ρ',F',h2,h3,h4⟩=>?_
 have h5:=aa2 h4
 subst h5
 refine⟨h1,w'.drawn - w0.drawn,w'.heap.extract w0.heap.size w'.heap.size,?_⟩
 have hd:=h2.ext.drawn
 have hs:=h2.ext.size
 have hheap:w'.heap=w0.heap++w'.heap.extract w0.heap.size w'.heap.size:=by
  apply Array.ext_getElem?
  intro j
  rcases Nat.lt_or_ge j w0.heap.size with hj | hj
  ·rw[Array.getElem?_append_left hj,h2.ext.block j hj (by omega)]
  ·rw[Array.getElem?_append_right hj,Array.getElem?_extract]
   have e:w0.heap.size+(j - w0.heap.size)=j:=by omega
   rw[e]
   split
   ·rfl
   ·rw[Array.getElem?_eq_none (by omega)]
 obtain⟨hp,tp,dr,os',out⟩:=w'
 have e1:=h2.ext.os;have e2:=h2.ext.tape;have e3:=h2.ext.output
 simp only at e1 e2 e3 hd hheap
 subst e1 e2 e3
 unfold grow World.drewN
 simp only
 congr 1
 omega
noncomputable def Sd0 (t:Ty α) (g:Nat) (et:Nat) (srt:List α→List α):Sum:=fun args blks=>match args,blks with
 | [.sl 0 0 n 0,.fn g' []],[⟨et',es',el,true,false,0⟩] =>
  Bool.rec (motive:=fun _=>DT (b7×List b8)) .fail (.guard (Bool.and (Nat.ble n room) (Bool.and (Nat.ble n (len el)) (okS t el 0 n))) (.ret (.v (.tuple #[]),[⟨et',es',app (bL t (srt (slR t el 0 n))) (f0 el n),true,false,0⟩])))
   (Bool.and (Nat.beq g' g) (Bool.and (Nat.beq et' et) (Nat.beq es' t.es)))
 | _,_=>.fail
theorem ac9 (l:List α) (j:Nat) (h:j < l.length):l.toArray[j]! = l[j]:=by
 rw[getElem!_pos l.toArray j (by simpa using h)]
 simp
theorem be4 {f : FuncId} {et : Nat} {srt : List α → List α} (hcall : Bb0 P f) (hes : 0 < t.es) (he : ∀ x, t.row x = (enc x).map .v) (hx : ∀ r, t.ok r = true → r = t.row (t.rd r)) (h1 : ∀ x, ∀ v ∈ enc x, v.oneCell' = true)
  (hlen:∀ l,(srt l).length=l.length) (hcl:∀ blk off size w,CmpLays P g #[] enc t.es cf blk off size w)
  (hcon:∀ (blk cap:Nat) (d:Array α) (w:World),(∀ off size,CmpLays P g #[] enc t.es cf blk off size w)→HoldsK enc t.es w blk 0 d→blk < w.heap.size→d.size < 4611686018427387904 →
   Calls P f #[.slice (some ⟨blk,0,none⟩) d.size cap,.func (.func g) #[] #[]] w fun e w'=>e=.returned (.tuple #[])∧∃ n os,w'=sortWorldK enc t.es w blk 0 n (srt d.toList).toArray os) :
  g7 P G f (Sd0 t g et srt):=by
 intro args blks r out hr W ρ F w args' hH hl hargs hG
 refine⟨hcall,?_⟩
 unfold Sd0 at hr
 split at hr
 case h_2=>cases hr
 rename_i n g' et' es' el
 cases hb0:Bool.and (Nat.beq g' g) (Bool.and (Nat.beq et' et) (Nat.beq es' t.es)) with
 | false=>rw[hb0] at hr;cases hr
 | true =>
 rw[hb0] at hr
 rw[Bool.and_eq_true,Bool.and_eq_true] at hb0
 have q1:=Nat.eq_of_beq_eq_true hb0.1;have q2:=Nat.eq_of_beq_eq_true hb0.2.1;have q3:=Nat.eq_of_beq_eq_true hb0.2.2
 subst q1 q2 q3
 obtain⟨hg0,hr⟩:=DT.run_guard_some hr
 rw[Bool.and_eq_true,Bool.and_eq_true] at hg0
 have hroom:n≤room:=Nat.le_of_ble_eq_true hg0.1
 have hn:=Nat.le_of_ble_eq_true hg0.2.1
 rw[l4] at hn
 have hok:=hg0.2.2
 injection hr with hr;injection hr with p1 p2;subst p1 p2
 match args',hl with
 | [v0,v1],_ =>
 obtain⟨a,cap,b,rfl,hb,hd,_,hncap,hspot,hcap,hq⟩:=ya2 (hargs 0 _ _ rfl rfl)
 obtain⟨vs1,rfl,hvs1,_⟩:=rb7 (hargs 1 _ _ rfl rfl)
 have hvs1:vs1=#[]:=Array.eq_empty_of_size_eq_zero (by simpa using hvs1.symm)
 subst hvs1
 rw[Ya3] at *
 have hb:b=⟨et',t.es,el,true,false,0⟩:=by simpa using hb.symm
 subst hb
 obtain⟨ha,hsz,hne⟩:=hq rfl
 have ha:a=⟨(ρ 0).blk,(ρ 0).off+0*t.es,none⟩:=ha.resolve_left fun h=>by omega
 obtain⟨cc,tt,fr,hB⟩:=hH.blk 0 _ rfl rfl
 obtain⟨hfr,hW,hoff,hsize,hnF,het⟩:=hB.own rfl
 subst hfr
 rw[hoff,Nat.zero_mul,Nat.add_zero] at ha
 subst ha
 generalize hbk:(ρ 0).blk=blk at *
 -- the rows as data
 have hrow:∀ j,j < n→i9 el j=(enc (gL t (slR t el 0 n) j)).map .v:=fun j hj=>by
  have h2:t.ok (i9 el (0+j))=true:=List.all_eq_true.1 hok j (by simpa using hj)
  rw[Nat.zero_add] at h2
  rw[← he,slR,xd2 t _ hj,Nat.zero_add]
  exact hx _ h2
 have hld:(slR t el 0 n).length=n:=Sc9 ..
 have hk:∀ x,(enc x).length=t.es:=fun x=>by have:=t.h0 x;rw[l4,he] at this;simpa using this
 have hlt:blk < w.heap.size:=by
  have:=hB.obj
  rcases Nat.lt_or_ge blk w.heap.size with h | h
  ·exact h
  ·rw[hbk,Array.getElem?_eq_none h] at this;cases this
 have hobj:w.heap[blk]?=some (.cells cc tt (0,0)):=by rw[← hbk];exact hB.obj
 have hgd:∀ (l:List α) (j:Nat) (h:j < l.length),gL t l j=l[j]:=fun l j h=>by simp[gL,List.getD_eq_getElem?_getD,List.getElem?_eq_getElem h]
 have hdm:∀ q,q < n*t.es→q / t.es < n∧q % t.es < t.es∧(q / t.es)*t.es+q % t.es=q:=fun q hq=>⟨Nat.div_lt_of_lt_mul (by rw[Nat.mul_comm];exact hq),Nat.mod_lt _ hes,Nat.div_add_mod' q t.es⟩
 have hrowAt:∀ j,j < el.length→el[j]?=some (i9 el j):=fun j hj=>by
  unfold i9;rw[y9,List.getElem?_eq_getElem hj]
 have hH0:HoldsK enc t.es w blk 0 (slR t el 0 n).toArray:=by
  intro q hq
  have hq:q < n*t.es:=by rw[size_flatK] at hq;simpa [hld] using hq
  obtain⟨e1,e2,e3⟩:=hdm q hq
  rw[get_flatK _ _ _ _ (by simpa [hld] using hq),ac9 _ _ (by rw[hld];exact e1),← hgd _ _ (by rw[hld];exact e1)]
  have hcx:(i9 el (q / t.es))[q % t.es]?=some (.v ((enc (gL t (slR t el 0 n) (q / t.es)))[q % t.es]!)):=by
   rw[hrow _ e1,List.getElem?_map,List.getElem?_eq_getElem (by rw[hk];exact e2),getElem!_pos _ _ (by rw[hk];exact e2)]
   rfl
  obtain⟨x',h5,h6⟩:=hB.cell (q / t.es) _ (q % t.es) _ (hrowAt _ (by omega)) hcx
  have h6:x'=(enc (gL t (slR t el 0 n) (q / t.es)))[q % t.es]! :=by cases h6;rfl
  subst h6
  rw[hoff] at h5
  simp only[e3,Nat.zero_add] at h5
  constructor
  ·simp only[World.cell?,hobj,Nat.zero_add]
   simpa using h5
  ·simp[World.frozen?,hobj]
 have hds:(slR t el 0 n).toArray.size=n:=by simpa using hld
 have hmax:n < 4611686018427387904:=by unfold room at hroom;omega
 have hcalls:=hcon blk cap (slR t el 0 n).toArray w (fun off size=>hcl blk off size w) hH0 hlt (by rw[hds];exact hmax)
 rw[hds] at hcalls
 refine hcalls.mono fun e w' ⟨h5,m,os,h6⟩=>⟨_,h5,ρ,F,?_⟩
 generalize hsd:srt (slR t el 0 n)=sd at *
 have hsl:sd.length=n:=by rw[← hsd,hlen,hld]
 have h6:w'=grow (mapBlock (Sort.ahead w m) blk (putCells id 0 (flatK enc t.es sd.toArray))) os:=h6
 have hw'size:w'.heap.size=w.heap.size+os.size:=by rw[h6];simp[mapBlock]
 have hold:∀ k,k < w.heap.size→k≠blk→w'.heap[k]?=w.heap[k]?:=fun k h7 h8=>by
  rw[h6]
  simp only[grow,mapBlock]
  rw[Array.getElem?_append_left (by simpa using h7),Array.getElem?_modify]
  simp[Ne.symm h8]
 have hnew:w'.heap[blk]?=some (.cells (putCells id 0 (flatK enc t.es sd.toArray) cc) tt (0,0)):=by
  rw[h6]
  simp only[grow,mapBlock]
  rw[Array.getElem?_append_left (by simpa using hlt),Array.getElem?_modify]
  simp[hobj,onCells]
 have hcells:∀ b o,F b o→w'.cell? ⟨b,o,none⟩=w.cell? ⟨b,o,none⟩:=fun b o hf=>by
  have h7:b≠blk:=fun h8=>hnF o (h8 ▸ hf)
  have:=rb4 (hH.frz b o hf)
  simp only[World.cell?,hold b this h7]
 have hpc:∀ q,q < cc.size→(putCells id 0 (flatK enc t.es sd.toArray) cc)[q]?=if q < n*t.es then some ((enc sd.toArray[q / t.es]!)[q % t.es]!) else cc[q]?:=fun q hq=>by
  simp only[putCells,Array.getElem?_mapIdx,Array.getElem?_eq_getElem hq,Option.map_some,size_flatK,Nat.zero_le,true_and,Nat.zero_add,Nat.sub_zero,id]
  have:sd.toArray.size=n:=by simpa using hsl
  rw[this]
  split
  ·next h7=>rw[get_flatK _ _ _ _ (by rw[this];exact h7)]
  ·rfl
 have hel:(app (bL t sd) (f0 el n)).length=el.length:=by
  rw[C5,List.length_append,← l4 (bL t sd),O7,hsl,C9,List.length_drop]
  omega
 have hnrow:∀ (j:Nat) r,(app (bL t sd) (f0 el n))[j]?=some r→(j < n∧r=t.row (gL t sd j))∨(n≤j∧el[j]?=some r):=fun j r hr=>by
  have hlb:(bL t sd).length=n:=by rw[← l4,O7,hsl]
  rw[C5] at hr
  rcases Nat.lt_or_ge j n with h7 | h7
  ·rw[List.getElem?_append_left (by omega)] at hr
   left
   refine⟨h7,?_⟩
   unfold bL at hr
   rw[l6,List.getElem?_map,List.getElem?_eq_getElem (by omega)] at hr
   injection hr with hr
   rw[← hr,hgd sd j (by omega)]
  ·rw[List.getElem?_append_right (by omega),hlb,C9,List.getElem?_drop] at hr
   right
   exact⟨h7,by rw[← hr];congr 1;omega⟩
 have hcs:el.length*t.es≤cc.size:=by have:=hB.len;rw[hsize] at this;exact this
 refine⟨⟨⟨?_,?_,?_,by omega,fun k h7 h8=>hold k h7 fun h9=>h8 (h9 ▸ hW),hcells,?_⟩,fun id b hb=>?_,fun _ _ h=>h,fun _ _ h=>.inl h,fun id b' hb' hn'=>?_⟩,⟨fun id b hb hd'=>?_,fun id id' b b' hb hb' h7 h8 h9 h10=>?_,fun b o hf=>by rw[hcells b o hf];exact hH.frz b o hf,fun k hk'=>hH.new k (by omega)⟩,.ofv _⟩
 ·rw[h6];rfl
 ·rw[h6];rfl
 ·rw[h6];rfl
 ·rw[h6];exact Nat.le_add_right _ _
 ·match id,hb with
  | 0,hb =>
   cases hb
   exact⟨_,rfl,rfl,Nat.le_refl _,fun _=>⟨rfl,rfl,by simp only[hel];exact Nat.le_refl _⟩⟩
 ·match id,hb' with
  | 0,hb'=>cases hb';exact absurd rfl (hn' ⟨et',t.es,el,true,false,0⟩ rfl)
 ·match id,hb with
  | 0,hb =>
   cases hb
   refine⟨_,tt,(0,0),by rw[hbk];exact hnew,?_,?_,?_,?_,fun _=>⟨rfl,by rw[hbk];exact hW,hoff,?_,by rw[hbk];exact hnF,het⟩,fun h=>by cases h⟩
   ·rw[hoff,hsize];simp[putCells]
   ·simp only[hel];exact hB.len
   ·intro j r hr
    rcases hnrow j r hr with⟨_,h8⟩ | ⟨_,h8⟩
    ·rw[h8,← l4];exact t.h0 _
    ·exact hB.rows j r h8
   ·intro j r c x hr hc
    rw[hoff,Nat.zero_add]
    rcases hnrow j r hr with⟨h7,h8⟩ | ⟨h7,h8⟩
    ·subst h8
     have hclt:c < t.es:=by
      have:=(List.getElem?_eq_some_iff.1 hc).1
      rw[← l4,t.h0] at this
      exact this
     have hq:j*t.es+c < n*t.es:=by
      have:=Nat.mul_le_mul_right t.es (show j+1≤n from h7)
      rw[Nat.add_mul,Nat.one_mul] at this
      omega
     have hqn:n*t.es≤el.length*t.es:=Nat.mul_le_mul_right _ hn
     have e1:(j*t.es+c) / t.es=j:=by rw[Nat.mul_comm,Nat.mul_add_div hes,Nat.div_eq_of_lt hclt,Nat.add_zero]
     have e2:(j*t.es+c) % t.es=c:=by rw[Nat.mul_comm,Nat.mul_add_mod,Nat.mod_eq_of_lt hclt]
     rw[he,List.getElem?_map,List.getElem?_eq_getElem (by rw[hk];exact hclt)] at hc
     injection hc with hc
     subst hc
     refine⟨(enc (gL t sd j))[c]'(by rw[hk];exact hclt),?_,.v _ (h1 _ _ (List.getElem_mem _))⟩
     rw[hpc _ (Nat.lt_of_lt_of_le hq (Nat.le_trans hqn hcs)),if_pos hq,e1,e2,ac9 _ _ (by omega),hgd sd j (by omega),getElem!_pos _ _ (by rw[hk];exact hclt)]
    ·obtain⟨x',h9,h10⟩:=hB.cell j r c x h8 hc
     rw[hoff,Nat.zero_add] at h9
     have hq:¬ j*t.es+c < n*t.es:=by
      have:=Nat.mul_le_mul_right t.es h7
      omega
     have hlt':j*t.es+c < cc.size:=(Array.getElem?_eq_some_iff.1 h9).1
     exact⟨x',by rw[hpc _ hlt',if_neg hq];exact h9,h10.adv (fun _ _ h=>h) hcells⟩
   ·rw[hsize];simp[putCells]
 ·match id,hb,id',hb' with
  | 0,hb,0,hb'=>exact absurd rfl h10
end
end Go.Ev.L
namespace Go.Proofs
open Go.Shelf
set_option maxRecDepth 100000 in
def Ce.sortLay_ren:Go.Shelf.Ren:=⟨fun | 6=>103 | 15=>178 | 14=>177 | 28=>230 | 29=>231 | 20=>222 | 21=>223 | 22=>224 | 23=>225 | 24=>226 | 25=>227 | 26=>228 | 27=>229 | 46=>240 | 47=>241 | 48=>242 | 49=>243 | 50=>244 | 57=>254 | n=>n,fun | 22=>25 | 24=>50 | 25=>119 | 3=>3 | 39=>185 | 0=>0 | 53=>213 | 55=>215 | 4=>4 | 46=>207 | 45=>206 | 50=>72 | 5=>5 | 9=>9 | 66=>219 | 70=>223 | 76=>231 | 77=>232 | n=>n,fun | n=>n⟩
set_option maxRecDepth 100000 in
theorem Ce.sortLay:Go.Proofs.SlLaysF0.n6 Tryz.prog Ce.sortLay_ren:={
 mixed:=by kernel_rfl
 f6:=⟨Tryz.f103.name,by decide,Tryz.func103.trans (congrArg some (by kernel_rfl))⟩
 f14:=⟨Tryz.f177.name,by decide,Tryz.func177.trans (congrArg some (by kernel_rfl))⟩
 f15:=Tryz.func178.trans (congrArg some (by kernel_rfl))
 f20:=⟨Tryz.f222.name,by decide,Tryz.func222.trans (congrArg some (by kernel_rfl))⟩
 f21:=⟨Tryz.f223.name,by decide,Tryz.func223.trans (congrArg some (by kernel_rfl))⟩
 f22:=⟨Tryz.f224.name,by decide,Tryz.func224.trans (congrArg some (by kernel_rfl))⟩
 f23:=⟨Tryz.f225.name,by decide,Tryz.func225.trans (congrArg some (by kernel_rfl))⟩
 f24:=⟨Tryz.f226.name,by decide,Tryz.func226.trans (congrArg some (by kernel_rfl))⟩
 f25:=⟨Tryz.f227.name,by decide,Tryz.func227.trans (congrArg some (by kernel_rfl))⟩
 f26:=⟨Tryz.f228.name,by decide,Tryz.func228.trans (congrArg some (by kernel_rfl))⟩
 f27:=⟨Tryz.f229.name,by decide,Tryz.func229.trans (congrArg some (by kernel_rfl))⟩
 f28:=Tryz.func230.trans (congrArg some (by kernel_rfl))
 f29:=Tryz.func231.trans (congrArg some (by kernel_rfl))
 f46:=⟨Tryz.f240.name,by decide,Tryz.func240.trans (congrArg some (by kernel_rfl))⟩
 f47:=Tryz.func241.trans (congrArg some (by kernel_rfl))
 f48:=Tryz.func242.trans (congrArg some (by kernel_rfl))
 f49:=⟨Tryz.f243.name,by decide,Tryz.func243.trans (congrArg some (by kernel_rfl))⟩
 f50:=⟨Tryz.f244.name,by decide,Tryz.func244.trans (congrArg some (by kernel_rfl))⟩
 f57:=⟨Tryz.f254.name,by decide,Tryz.func254.trans (congrArg some (by kernel_rfl))⟩
 t0:=Tryz.underlying0
 a0:=Tryz.isAgg0
 z0:=Tryz.sizeOf0
 v0:=Tryz.zeroValue0
 t3:=Tryz.underlying3
 a3:=Tryz.isAgg3
 z3:=Tryz.sizeOf3
 v3:=Tryz.zeroValue3
 t4:=Tryz.underlying4
 a4:=Tryz.isAgg4
 z4:=Tryz.sizeOf4
 v4:=Tryz.zeroValue4
 t5:=Tryz.underlying5
 a5:=Tryz.isAgg5
 z5:=Tryz.sizeOf5
 v5:=Tryz.zeroValue5
 t9:=Tryz.underlying9
 a9:=Tryz.isAgg9
 z9:=Tryz.sizeOf9
 v9:=Tryz.zeroValue9
 t22:=Tryz.underlying25
 a22:=Tryz.isAgg25
 z22:=Tryz.sizeOf25
 v22:=Tryz.zeroValue25
 t25:=Tryz.underlying119
 a25:=Tryz.isAgg119
 z25:=Tryz.sizeOf119
 v25:=Tryz.zeroValue119
 t39:=Tryz.underlying185
 a39:=Tryz.isAgg185
 z39:=Tryz.sizeOf185
 v39:=Tryz.zeroValue185
 t45:=Tryz.underlying206
 a45:=Tryz.isAgg206
 z45:=Tryz.sizeOf206
 v45:=Tryz.zeroValue206
 t46:=Tryz.underlying207
 a46:=Tryz.isAgg207
 z46:=Tryz.sizeOf207
 v46:=Tryz.zeroValue207
 t50:=Tryz.underlying72
 a50:=Tryz.isAgg72
 z50:=Tryz.sizeOf72
 v50:=Tryz.zeroValue72
 t53:=Tryz.underlying213
 a53:=Tryz.isAgg213
 z53:=Tryz.sizeOf213
 v53:=Tryz.zeroValue213
 t55:=Tryz.underlying215
 a55:=Tryz.isAgg215
 z55:=Tryz.sizeOf215
 v55:=Tryz.zeroValue215
 t66:=Tryz.underlying219
 a66:=Tryz.isAgg219
 z66:=Tryz.sizeOf219
 v66:=Tryz.zeroValue219
 t70:=Tryz.underlying223
 a70:=Tryz.isAgg223
 z70:=Tryz.sizeOf223
 v70:=Tryz.zeroValue223
 t76:=Tryz.underlying231
 a76:=Tryz.isAgg231
 z76:=Tryz.sizeOf231
 v76:=Tryz.zeroValue231
 t77:=Tryz.underlying232
 a77:=Tryz.isAgg232
 z77:=Tryz.sizeOf232
 v77:=Tryz.zeroValue232 }
end Go.Proofs
namespace Go.Ev.Ce
open Go Go.Ev Go.Ev.L Go.Proofs Go.Sort
def bc0 (x y:Int):Int:=if x < y then -1 else if x > y then 1 else 0
def nb7 (x y:Pln):Int :=
 if bc0 x.n.x y.n.x=0 then if bc0 x.n.y y.n.y=0 then if bc0 x.n.z y.n.z=0 then bc0 x.b y.b else bc0 x.n.z y.n.z else bc0 x.n.y y.n.y else bc0 x.n.x y.n.x
theorem qc8 (x y:Int):bc0 x y < 0↔x < y:=by unfold bc0;split<;>(try split)<;>omega
theorem Zc5 (x y:Int):bc0 x y=0↔x=y:=by unfold bc0;split<;>(try split)<;>omega
def LtP (x y:Pln):Prop:=x.n.x < y.n.x∨x.n.x=y.n.x∧(x.n.y < y.n.y∨x.n.y=y.n.y∧(x.n.z < y.n.z∨x.n.z=y.n.z∧x.b < y.b))
instance (x y:Pln):Decidable (LtP x y):=by unfold LtP;exact inferInstance
theorem be5 (x y:Pln):nb7 x y < 0↔LtP x y:=by
 have h1:=qc8 x.n.x y.n.x;have h2:=Zc5 x.n.x y.n.x
 have h3:=qc8 x.n.y y.n.y;have h4:=Zc5 x.n.y y.n.y
 have h5:=qc8 x.n.z y.n.z;have h6:=Zc5 x.n.z y.n.z
 have h7:=qc8 x.b y.b
 unfold nb7 LtP
 split
 ·split
  ·split<;>omega
  ·omega
 ·omega
theorem Za0 (x y:Pln):ltOf nb7 x y=decide (LtP x y):=by
 unfold ltOf
 rw[decide_eq_decide]
 exact be5 x y
theorem ve7:SWO (ltOf nb7) where
 irrefl x:=by rw[Za0];simp[LtP]
 trans x y z h1 h2:=by rw[Za0,decide_eq_true_eq] at *;unfold LtP at *;omega
 ntrans x y z h1 h2:=by rw[Za0,decide_eq_false_iff_not] at *;unfold LtP at *;omega
theorem ve8 (x y:Pln) (h1:ltOf nb7 x y=false) (h2:ltOf nb7 y x=false):x=y:=by
 rw[Za0,decide_eq_false_iff_not] at *
 unfold LtP at *
 obtain⟨⟨a,b,c⟩,d⟩:=x;obtain⟨⟨a',b',c'⟩,d'⟩:=y
 simp only at *
 have:a=a'∧b=b'∧c=c'∧d=d':=by omega
 obtain⟨rfl,rfl,rfl,rfl⟩:=this
 rfl
theorem nd7 (x y:Int):Ba3 x y=some (i (bc0 x y),[]):=by
 unfold Ba3 bc0
 simp only[ab0,decide_eq_true_eq]
 split<;>(try split)<;>rfl
theorem be6 (x y:Int):ia0 x y=bc0 x y:=by unfold ia0;rw[nd7];rfl
theorem be7 (x y:Int):ia1 x y=true:=by unfold ia1;rw[nd7];rfl
theorem Dc3 (x y:Pln):oa6 x y=some (i (nb7 x y),[]):=by
 unfold oa6 nb7
 simp only[be6,be7,ab0,beq_iff_eq,if_true]
 repeat' (first | rfl | split)
theorem ve9 (x y:Pln):Ca5 x y=nb7 x y:=by unfold Ca5;rw[Dc3];rfl
theorem we0 (x y:Pln):Ca6 x y=true:=by unfold Ca6;rw[Dc3];rfl
theorem we1 (x y:Pln):(Va4 [.agg (tP.row x),.agg (tP.row y)] []).run=some (i (nb7 x y),[]):=by
 have:(Va4 [.agg (tP.row x),.agg (tP.row y)] []).run=sel (Ca6 x y) (some (i (Ca5 x y),[])) none:=by kernel_rfl
 rw[this,we0,ve9]
def ec0 (p:Pln):List Value:=[.int .i64 p.n.x,.int .i64 p.n.y,.int .i64 p.n.z,.int .i64 p.b]
instance:Inhabited Pln:=⟨⟨⟨0,0,0⟩,0⟩⟩
def yb4 (l:List Pln):List Pln:=l.mergeSort fun x y=>!ltOf nb7 y x
theorem Qc1 (l:List Pln):(yb4 l).length=l.length:=List.length_mergeSort l
noncomputable def Ea9:Sum:=Sd0 tP 104 50 yb4
theorem Sd1:Ce.sortLay_ren.f 6=103:=by kernel_rfl
theorem Qc2:Ce.sortLay_ren.t 24=50:=by kernel_rfl
set_option maxRecDepth 100000 in
theorem nb8:g7 prog G 103 Ea9:=by
 refine be4 (enc:=ec0) (cf:=nb7) ⟨_,Tryz.func103,by kernel_rfl,of_decide_eq_true (by kernel_rfl)⟩ (by decide) (fun _=>rfl) (fun r h=>Da7 (n:=4) h) (fun x v hv=>?_) Qc1
  (fun blk off size w=>be3 hc9 we1 (fun _=>rfl) (fun _=>rfl) _ _ _ _ _) (fun blk cap d w hcl hH hb hs=>?_)
 ·simp[ec0] at hv
  rcases hv with rfl | rfl | rfl | rfl<;>rfl
 ·have eg:∀ args w,(callFunc 104 args).run Tryz.prog w=.ok (.enter 104 args) w:=enters_of Tryz.func104 (by kernel_rfl) rfl
  have:=AnyQ.slices_SortFunc Ce.sortLay 4 (by rw[Qc2];exact Tryz.isAgg50) (by rw[Qc2];exact Tryz.sizeOf50) ec0 (fun _=>rfl) (fun x v hv=>by simp[ec0] at hv;rcases hv with rfl | rfl | rfl | rfl<;>rfl) nb7 ve7 104 #[] blk 0 cap d w eg (hcl 0 d.size) hH hb hs
  rw[Sd1] at this
  refine this.mono fun e w' ⟨h1,d',n,os,h2,h3,h4⟩=>⟨h1,n,os,?_⟩
  have h5:=sorted_unique_holds ve7 ve8 d d' h2 h3
  rw[h4]
  show _=sortWorldK ec0 4 w blk 0 n (d.toList.mergeSort fun x y=>!ltOf nb7 y x).toArray os
  rw[← h5]
end Go.Ev.Ce
section
namespace Go.Ev.Ce
open Go Go.Ev Go.Ev.L Go.Proofs
set_option maxRecDepth 100000
noncomputable def zb1:List (Nat×Sum):=[]
theorem xb3:j7 prog G zb1:=trivial
structure ga6 where
 alt:Nat
 ns0:Nat
 eh0:List (List b7)
noncomputable def L5 {α:Type} (kk:ga6→α) (x:Pln×List Pln):α:=(sl (Nat.beq (len (l8 (fun k=>(tP).row (gL tP (x.1::x.2) k)) (List.range (List.length x.2+1)))) 0) (kk ⟨1,0,[]⟩) (sl (Nat.beq 0 0&&Nat.ble ((0+(len (l8 (fun k=>(tP).row (gL tP (x.1::x.2) k)) (List.range (List.length x.2+1)))))*32) room) (kk ⟨1,(0+(len (l8 (fun k=>(tP).row (gL tP (x.1::x.2) k)) (List.range (List.length x.2+1))))),(app [] (l8 (fun k=>(tP).row (gL tP (x.1::x.2) k)) (List.range (List.length x.2+1))))⟩) (kk ⟨0,0,[]⟩)))
noncomputable def ga7 (x:Pln×List Pln):ga6:=L5 (fun r=>r) x
noncomputable def ra0 (r:ga6):DT (b7×List b8):=(.ite (Nat.beq r.alt 1) (.ret ((.sl 0 0 r.ns0 0),[⟨50,4,r.eh0,true,false,0⟩])) .fail)
theorem Gb6 {α β:Type} (F:α→β) (kk:ga6→α) (x:Pln×List Pln):F (L5 kk x)=L5 (fun r=>F (kk r)) x:=by unfold L5;(repeat' apply l7 (f:=F))<;>rfl
noncomputable def Sa3:Sum:=da3 (pe3 tP) (fun x=>ra0 (ga7 x))
theorem zb2:g7 prog G 100 Sa3:=Vb2 (bd Ae4 xb3) fun x=>r4 (Eq.trans (b:=L5 (fun r=>(ra0 r).run) x) (by kernel_rfl) (Gb6 (fun r=>(ra0 r).run) (fun r=>r) x).symm)
noncomputable def Zc6:List (Nat×Sum):=[(20,Ea6),(18,pa5),(100,Sa3),(99,xa8),(103,Ea9),(105,Ja7)]
theorem Kc1:j7 prog G Zc6:=⟨Ia3,ta8,zb2,db7,nb8,rb1,trivial⟩
noncomputable def Sa4 (x:Pln×List Pln):Option (b7×List b8):=let t1:=(fa6 (rt tP (x.1::x.2)));let t2:=(T1 (rt tP (x.1::x.2)));let t3:=(ga7 (hC tP (fun k=>(tP).row (gL tP (x.1::x.2) k)),tC tP (List.length x.2) (fun k=>(tP).row (gL tP (x.1::x.2) k))));let t4:=(Q6 ⟨t3.ns0,t3.eh0,(rt tX t2)⟩);let t5:=(aa0 ⟨t4.ns0,(app (bL tP (yb4 (slR tP t4.eh0 0 t4.ns0))) (f0 t4.eh0 t4.ns0))⟩);(sl (okE tP (x.1::x.2)) (sl (fa7 (rt tP (x.1::x.2))) (sl (!t1) (some ((.v (.slice none 0 0)),[])) (sl (okE tP (x.1::x.2)) (sl (T2 (rt tP (x.1::x.2))) (sl (okL tP (List.length x.2+1) (fun k=>(tP).row (gL tP (x.1::x.2) k))) (sl (Nat.beq t3.alt 1) (sl ((cnE tX t2)&&true) (sl (Nat.beq t4.alt 1) (sl (Bool.and (Nat.ble t4.ns0 room) (Bool.and (Nat.ble t4.ns0 (len t4.eh0)) (okS tP t4.eh0 0 t4.ns0))) (sl (Nat.beq t5.alt 1) (some ((.sl 0 0 t5.ns0 0),[⟨50,4,t5.eh0,true,false,0⟩])) none) none) none) none) none) none) none) none)) none) none)
noncomputable def Gb7 (x:Pln×List Pln):List Pln:=I5 (one (r1L tP)) (Sa4 x)
noncomputable def Gb8 (x:Pln×List Pln):Bool:=okO (one (r1L tP)) (Sa4 x)
noncomputable def lc3:Sum:=da3 (pe3 tP) (fun x=>.guard (Gb8 x) (.ret ((one (r1L tP)).enc (Gb7 x),[])))
theorem Zc7:g7 prog G 25 lc3:=wa2 (bd b25 Kc1) (one (r1L tP)) (o:=Sa4) fun x=>r4 (by kernel_rfl)
noncomputable def pc3:List (Nat×Sum):=[(81,ac8),(18,pa5),(17,Na0),(25,lc3),(26,Bc8),(20,Ea6),(28,Cc6),(22,vb2),(31,ac6),(33,Nb8),(15,Wa9)]
theorem ic2:j7 prog G pc3:=⟨Kc0,ta8,jb4,Zc7,ld7,Ia3,nd3,Nb2,Jc8,Cc9,lb7,trivial⟩
noncomputable def va3  : Option (b7×List b8):=let t1:=xb2;let t2:=(T1 [(⟨(⟨1,0,0⟩:V3),t1.d9⟩:Pln),(⟨(⟨(-1),0,0⟩:V3),t1.M2⟩:Pln),(⟨(⟨0,1,0⟩:V3),t1.M3⟩:Pln),(⟨(⟨0,(-1),0⟩:V3),t1.M4⟩:Pln),(⟨(⟨0,0,1⟩:V3),t1.M5⟩:Pln),(⟨(⟨0,0,(-1)⟩:V3),t1.M6⟩:Pln)]);let t3:=(T1 [(⟨(⟨(-1),0,0⟩:V3),0⟩:Pln),(⟨(⟨0,(-1),0⟩:V3),0⟩:Pln),(⟨(⟨0,0,(-1)⟩:V3),0⟩:Pln),(⟨(⟨2,3,4⟩:V3),1⟩:Pln)]);let t4:=(aa7 (rt tX t2) [(⟨1,1,1,1⟩:Pt),(⟨1,1,0,1⟩:Pt),(⟨1,0,1,1⟩:Pt),(⟨1,0,0,1⟩:Pt),(⟨0,1,1,1⟩:Pt),(⟨0,1,0,1⟩:Pt),(⟨0,0,1,1⟩:Pt),(⟨0,0,0,1⟩:Pt)]);let t5:=(aa7 (rt tX t3) [(⟨0,0,0,1⟩:Pt),(⟨0,0,1,4⟩:Pt),(⟨0,1,0,3⟩:Pt),(⟨1,0,0,2⟩:Pt)]);let t6:=(Gb7 ((⟨(⟨1,0,0⟩:V3),t1.d9⟩:Pln),[(⟨(⟨(-1),0,0⟩:V3),t1.M2⟩:Pln),(⟨(⟨0,1,0⟩:V3),t1.M3⟩:Pln),(⟨(⟨0,(-1),0⟩:V3),t1.M4⟩:Pln),(⟨(⟨0,0,1⟩:V3),t1.M5⟩:Pln),(⟨(⟨0,0,(-1)⟩:V3),t1.M6⟩:Pln),(⟨(⟨1,0,0⟩:V3),t1.d9⟩:Pln),(⟨(⟨1,1,1⟩:V3),3⟩:Pln),(⟨(⟨1,0,0⟩:V3),7⟩:Pln)]));let t7:=(wb3 (rt tP t6) [(⟨(⟨(-1),0,0⟩:V3),t1.M2⟩:Pln),(⟨(⟨0,(-1),0⟩:V3),t1.M4⟩:Pln),(⟨(⟨0,0,(-1)⟩:V3),t1.M6⟩:Pln),(⟨(⟨0,0,1⟩:V3),t1.M5⟩:Pln),(⟨(⟨0,1,0⟩:V3),t1.M3⟩:Pln),(⟨(⟨1,0,0⟩:V3),t1.d9⟩:Pln)]);let t8:=(fa6 []);let t9:=(fa6 [(⟨(⟨1,0,0⟩:V3),t1.d9⟩:Pln),(⟨(⟨(-1),0,0⟩:V3),t1.M2⟩:Pln),(⟨(⟨0,1,0⟩:V3),t1.M3⟩:Pln),(⟨(⟨0,(-1),0⟩:V3),t1.M4⟩:Pln),(⟨(⟨0,0,1⟩:V3),t1.M5⟩:Pln),(⟨(⟨0,0,(-1)⟩:V3),t1.M6⟩:Pln),(⟨(⟨(-1),0,0⟩:V3),(-1)⟩:Pln)]);let t10:=(eb0 [(⟨(⟨1,0,0⟩:V3),t1.d9⟩:Pln),(⟨(⟨(-1),0,0⟩:V3),t1.M2⟩:Pln),(⟨(⟨0,1,0⟩:V3),t1.M3⟩:Pln),(⟨(⟨0,(-1),0⟩:V3),t1.M4⟩:Pln),(⟨(⟨0,0,1⟩:V3),t1.M5⟩:Pln),(⟨(⟨0,0,(-1)⟩:V3),t1.M6⟩:Pln)] (⟨1,0,0⟩:V3));let t11:=(eb0 [(⟨(⟨1,0,0⟩:V3),t1.d9⟩:Pln),(⟨(⟨(-1),0,0⟩:V3),t1.M2⟩:Pln),(⟨(⟨0,1,0⟩:V3),t1.M3⟩:Pln),(⟨(⟨0,(-1),0⟩:V3),t1.M4⟩:Pln),(⟨(⟨0,0,1⟩:V3),t1.M5⟩:Pln),(⟨(⟨0,0,(-1)⟩:V3),t1.M6⟩:Pln)] (⟨2,0,0⟩:V3));let t12:=(Ia6 [(⟨(⟨(-1),0,0⟩:V3),0⟩:Pln),(⟨(⟨0,(-1),0⟩:V3),0⟩:Pln),(⟨(⟨0,0,(-1)⟩:V3),0⟩:Pln),(⟨(⟨2,3,4⟩:V3),1⟩:Pln)]);let t13:=(Ja9 [(⟨(⟨1,0,0⟩:V3),t1.d9⟩:Pln),(⟨(⟨(-1),0,0⟩:V3),t1.M2⟩:Pln),(⟨(⟨0,1,0⟩:V3),t1.M3⟩:Pln),(⟨(⟨0,(-1),0⟩:V3),t1.M4⟩:Pln),(⟨(⟨0,0,1⟩:V3),t1.M5⟩:Pln),(⟨(⟨0,0,(-1)⟩:V3),t1.M6⟩:Pln)] [(⟨(⟨(-1),0,0⟩:V3),(-1)⟩:Pln)]);let t14:=(Ja9 [(⟨(⟨1,0,0⟩:V3),t1.d9⟩:Pln),(⟨(⟨(-1),0,0⟩:V3),t1.M2⟩:Pln),(⟨(⟨0,1,0⟩:V3),t1.M3⟩:Pln),(⟨(⟨0,(-1),0⟩:V3),t1.M4⟩:Pln),(⟨(⟨0,0,1⟩:V3),t1.M5⟩:Pln),(⟨(⟨0,0,(-1)⟩:V3),t1.M6⟩:Pln)] [(⟨(⟨(-1),(-1),0⟩:V3),(-1)⟩:Pln)]);let t15:=(Ba5 [(⟨(⟨1,0,0⟩:V3),t1.d9⟩:Pln),(⟨(⟨(-1),0,0⟩:V3),t1.M2⟩:Pln),(⟨(⟨0,1,0⟩:V3),t1.M3⟩:Pln),(⟨(⟨0,(-1),0⟩:V3),t1.M4⟩:Pln),(⟨(⟨0,0,1⟩:V3),t1.M5⟩:Pln),(⟨(⟨0,0,(-1)⟩:V3),t1.M6⟩:Pln)] [(⟨(⟨1,1,1⟩:V3),3⟩:Pln)]);let t16:=(Ba5 [(⟨(⟨1,0,0⟩:V3),t1.d9⟩:Pln),(⟨(⟨(-1),0,0⟩:V3),t1.M2⟩:Pln),(⟨(⟨0,1,0⟩:V3),t1.M3⟩:Pln),(⟨(⟨0,(-1),0⟩:V3),t1.M4⟩:Pln),(⟨(⟨0,0,1⟩:V3),t1.M5⟩:Pln),(⟨(⟨0,0,(-1)⟩:V3),t1.M6⟩:Pln)] [(⟨(⟨1,1,1⟩:V3),2⟩:Pln)]);let t17:=(wa6 [(⟨(⟨0,0,0⟩:V3),0⟩:Pln)]);(sl (T2 [(⟨(⟨1,0,0⟩:V3),t1.d9⟩:Pln),(⟨(⟨(-1),0,0⟩:V3),t1.M2⟩:Pln),(⟨(⟨0,1,0⟩:V3),t1.M3⟩:Pln),(⟨(⟨0,(-1),0⟩:V3),t1.M4⟩:Pln),(⟨(⟨0,0,1⟩:V3),t1.M5⟩:Pln),(⟨(⟨0,0,(-1)⟩:V3),t1.M6⟩:Pln)]) (sl (T2 [(⟨(⟨(-1),0,0⟩:V3),0⟩:Pln),(⟨(⟨0,(-1),0⟩:V3),0⟩:Pln),(⟨(⟨0,0,(-1)⟩:V3),0⟩:Pln),(⟨(⟨2,3,4⟩:V3),1⟩:Pln)]) (sl (okE tX t2) (sl (aa8 (rt tX t2) [(⟨1,1,1,1⟩:Pt),(⟨1,1,0,1⟩:Pt),(⟨1,0,1,1⟩:Pt),(⟨1,0,0,1⟩:Pt),(⟨0,1,1,1⟩:Pt),(⟨0,1,0,1⟩:Pt),(⟨0,0,1,1⟩:Pt),(⟨0,0,0,1⟩:Pt)]) (sl (!t4) (some ((b false),[])) (sl (okE tX t3) (sl (aa8 (rt tX t3) [(⟨0,0,0,1⟩:Pt),(⟨0,0,1,4⟩:Pt),(⟨0,1,0,3⟩:Pt),(⟨1,0,0,2⟩:Pt)]) (sl (!t5) (some ((b false),[])) (sl (Gb8 ((⟨(⟨1,0,0⟩:V3),t1.d9⟩:Pln),[(⟨(⟨(-1),0,0⟩:V3),t1.M2⟩:Pln),(⟨(⟨0,1,0⟩:V3),t1.M3⟩:Pln),(⟨(⟨0,(-1),0⟩:V3),t1.M4⟩:Pln),(⟨(⟨0,0,1⟩:V3),t1.M5⟩:Pln),(⟨(⟨0,0,(-1)⟩:V3),t1.M6⟩:Pln),(⟨(⟨1,0,0⟩:V3),t1.d9⟩:Pln),(⟨(⟨1,1,1⟩:V3),3⟩:Pln),(⟨(⟨1,0,0⟩:V3),7⟩:Pln)])) (sl (okE tP t6) (sl (wb4 (rt tP t6) [(⟨(⟨(-1),0,0⟩:V3),t1.M2⟩:Pln),(⟨(⟨0,(-1),0⟩:V3),t1.M4⟩:Pln),(⟨(⟨0,0,(-1)⟩:V3),t1.M6⟩:Pln),(⟨(⟨0,0,1⟩:V3),t1.M5⟩:Pln),(⟨(⟨0,1,0⟩:V3),t1.M3⟩:Pln),(⟨(⟨1,0,0⟩:V3),t1.d9⟩:Pln)]) (sl (!t7) (some ((b false),[])) (sl (fa7 []) (sl (!t8) (some ((b false),[])) (sl (fa7 [(⟨(⟨1,0,0⟩:V3),t1.d9⟩:Pln),(⟨(⟨(-1),0,0⟩:V3),t1.M2⟩:Pln),(⟨(⟨0,1,0⟩:V3),t1.M3⟩:Pln),(⟨(⟨0,(-1),0⟩:V3),t1.M4⟩:Pln),(⟨(⟨0,0,1⟩:V3),t1.M5⟩:Pln),(⟨(⟨0,0,(-1)⟩:V3),t1.M6⟩:Pln),(⟨(⟨(-1),0,0⟩:V3),(-1)⟩:Pln)]) (sl t9 (some ((b false),[])) (sl (eb1 [(⟨(⟨1,0,0⟩:V3),t1.d9⟩:Pln),(⟨(⟨(-1),0,0⟩:V3),t1.M2⟩:Pln),(⟨(⟨0,1,0⟩:V3),t1.M3⟩:Pln),(⟨(⟨0,(-1),0⟩:V3),t1.M4⟩:Pln),(⟨(⟨0,0,1⟩:V3),t1.M5⟩:Pln),(⟨(⟨0,0,(-1)⟩:V3),t1.M6⟩:Pln)] (⟨1,0,0⟩:V3)) (sl (!t10) (some ((b false),[])) (sl (eb1 [(⟨(⟨1,0,0⟩:V3),t1.d9⟩:Pln),(⟨(⟨(-1),0,0⟩:V3),t1.M2⟩:Pln),(⟨(⟨0,1,0⟩:V3),t1.M3⟩:Pln),(⟨(⟨0,(-1),0⟩:V3),t1.M4⟩:Pln),(⟨(⟨0,0,1⟩:V3),t1.M5⟩:Pln),(⟨(⟨0,0,(-1)⟩:V3),t1.M6⟩:Pln)] (⟨2,0,0⟩:V3)) (sl t11 (some ((b false),[])) (sl (Ia7 [(⟨(⟨(-1),0,0⟩:V3),0⟩:Pln),(⟨(⟨0,(-1),0⟩:V3),0⟩:Pln),(⟨(⟨0,0,(-1)⟩:V3),0⟩:Pln),(⟨(⟨2,3,4⟩:V3),1⟩:Pln)]) (sl (!((t12.1.x==0)&&((t12.1.y==0)&&((t12.1.z==0)&&true)))) (some ((b false),[])) (sl (!((t12.2.1.x==1)&&((t12.2.1.y==1)&&((t12.2.1.z==1)&&true)))) (some ((b false),[])) (sl (!t12.2.2) (some ((b false),[])) (sl (Ka0 [(⟨(⟨1,0,0⟩:V3),t1.d9⟩:Pln),(⟨(⟨(-1),0,0⟩:V3),t1.M2⟩:Pln),(⟨(⟨0,1,0⟩:V3),t1.M3⟩:Pln),(⟨(⟨0,(-1),0⟩:V3),t1.M4⟩:Pln),(⟨(⟨0,0,1⟩:V3),t1.M5⟩:Pln),(⟨(⟨0,0,(-1)⟩:V3),t1.M6⟩:Pln)] [(⟨(⟨(-1),0,0⟩:V3),(-1)⟩:Pln)]) (sl t13 (sl (Ka0 [(⟨(⟨1,0,0⟩:V3),t1.d9⟩:Pln),(⟨(⟨(-1),0,0⟩:V3),t1.M2⟩:Pln),(⟨(⟨0,1,0⟩:V3),t1.M3⟩:Pln),(⟨(⟨0,(-1),0⟩:V3),t1.M4⟩:Pln),(⟨(⟨0,0,1⟩:V3),t1.M5⟩:Pln),(⟨(⟨0,0,(-1)⟩:V3),t1.M6⟩:Pln)] [(⟨(⟨(-1),(-1),0⟩:V3),(-1)⟩:Pln)]) (sl (!t14) (sl (Ba6 [(⟨(⟨1,0,0⟩:V3),t1.d9⟩:Pln),(⟨(⟨(-1),0,0⟩:V3),t1.M2⟩:Pln),(⟨(⟨0,1,0⟩:V3),t1.M3⟩:Pln),(⟨(⟨0,(-1),0⟩:V3),t1.M4⟩:Pln),(⟨(⟨0,0,1⟩:V3),t1.M5⟩:Pln),(⟨(⟨0,0,(-1)⟩:V3),t1.M6⟩:Pln)] [(⟨(⟨1,1,1⟩:V3),3⟩:Pln)]) (sl t15 (sl (Ba6 [(⟨(⟨1,0,0⟩:V3),t1.d9⟩:Pln),(⟨(⟨(-1),0,0⟩:V3),t1.M2⟩:Pln),(⟨(⟨0,1,0⟩:V3),t1.M3⟩:Pln),(⟨(⟨0,(-1),0⟩:V3),t1.M4⟩:Pln),(⟨(⟨0,0,1⟩:V3),t1.M5⟩:Pln),(⟨(⟨0,0,(-1)⟩:V3),t1.M6⟩:Pln)] [(⟨(⟨1,1,1⟩:V3),2⟩:Pln)]) (sl (!t16) (sl (wa7 [(⟨(⟨0,0,0⟩:V3),0⟩:Pln)]) (some ((b (t17==12)),[])) none) (some ((b false),[]))) none) (some ((b false),[]))) none) (some ((b false),[]))) none) (some ((b false),[]))) none)))) none)) none)) none)) none)) none)) none) none) none)) none) none)) none) none) none) none)
noncomputable def Ka2  : Bool:=I5 (one r1B) va3
noncomputable def Ka3  : Bool:=okO (one r1B) va3
noncomputable def Gb9:Sum:=dd8  (.guard Ka3 (.ret ((one r1B).enc Ka2,[])))
theorem pc4:g7 prog G 13 Gb9:=xe0 (bd b13 ic2) (one r1B) (o:=va3) (r4 (by kernel_rfl))
end Go.Ev.Ce
end
namespace Go.Ev.Ce
open Go Go.Ev Go.Ev.L Go.Proofs
noncomputable def onc (X:List Pt) (p:Pln):Nat:=X.countP fun x=>rm p x==0
noncomputable def keep (X:List Pt) (p:Pln):Bool:=!decide ((onc X p:Int) < 3)
theorem Dc4 (p:Pln) (X:List Pt) (hX:X.length≤1000000000):ha7 ⟨p.n.x,p.n.y,p.n.z,p.b,X⟩=⟨1,!keep X p,X⟩:=by
 have h:=Ib8 (step:=ka9 ⟨X,(X.length:Int),X,p.n.x,p.n.y,p.n.z,p.b⟩) (mk:=fun j (n:Nat)=>(⟨(n:Int),(j:Int)⟩:K2)) (f:=fun n x=>if rm p x==0 then n+1 else n) (fin:=1) tX X (fun j n=>n≤j) hX
  (fun j n hj hi=>by
   have hW:W ((n:Int)+1)=((n+1:Nat):Int):=by rw[ya3 (by omega) (by omega)];omega
   refine⟨?_,by show (if rm p (gL tX X j)==0 then n+1 else n)≤j+1;split<;>omega⟩
   simp only[ka9,ga5,Int.toNat_natCast,Wc3,hW,p4 hj (show X.length≤4611686018427387904 by omega)]
   rw[btD (o2 hj),bt (f7 hj)]
   cases rm p (gL tX X j)==0<;>rfl)
  (fun n _=>by simp only[ka9,ga5];rw[bfD (U5 (Nat.lt_irrefl _))]) 0 (Nat.zero_le _) 0 (Nat.le_refl _)
 have h:=h.1
 have e:∀ (l:List Pt) (n:Nat),l.foldl (fun n x=>if rm p x==0 then n+1 else n) n=n+l.countP fun x=>rm p x==0:=by
  intro l
  induction l with
  | nil=>intro n;rfl
  | cons x l ih =>
   intro n
   rw[List.foldl_cons,ih,List.countP_cons]
   split<;>omega
 rw[List.drop_zero,e,Nat.zero_add] at h
 unfold ha7 qa3 keep onc
 simp only[m8,o0]
 rw[show (⟨0,0⟩:K2)=⟨((0:Nat):Int),((0:Nat):Int)⟩ from rfl,h]
 show qa2.mk 1 (decide _) X=qa2.mk 1 (!(!(decide _))) X
 rw[Bool.not_not]
theorem be8 (l:List Pln) (X:List Pt) (hl:l.length≤1000000000) (hX:X.length≤1000000000):Q3 ⟨l.length,bL tP l,X⟩=⟨1,if l.any (fun p=>!keep X p) then ((l.findIdx (fun p=>!keep X p):Nat):Int) else -1,X⟩:=by
 have h:=ib4 (step:=D6 ⟨l.length,(l.length:Int),bL tP l⟩) (mk:=fun j=>(⟨(j:Int),X⟩:n8)) (c:=fun p=>!keep X p) (u:=1) (fin:=2) tP l hl
  (fun j hj=>by
   simp only[D6,B1,Int.toNat_natCast,m8,o0,ac4 hj,Kb2 hj,Dc4 _ _ hX,p4 hj (show l.length≤4611686018427387904 by omega)]
   rw[btD (o2 hj),bt (f7 hj)]
   rfl)
  (by simp only[D6,B1];rw[bfD (U5 (Nat.lt_irrefl _))]) 0 (Nat.zero_le _)
 rw[List.drop_zero] at h
 unfold Q3 B9
 simp only[m8,o0]
 rw[show (⟨0,X⟩:n8)=⟨((0:Nat):Int),X⟩ from rfl,h]
 cases ha:l.any fun p=>!keep X p with
 | false=>rfl
 | true =>
  have hf:l.findIdx (fun p=>!keep X p) < l.length:=by
   rw[List.any_eq_true] at ha
   obtain⟨p,hp,hc⟩:=ha
   exact List.findIdx_lt_length_of_exists ⟨p,hp,hc⟩
  simp only[if_true,Nat.zero_add,Int.toNat_natCast,Kb2 hf,Dc4 _ _ hX,m8]
  rfl
theorem bc1 {α:Type} (c:α→Bool):∀ l:List α,(l.take (l.findIdx c)).filter (fun x=>!c x)=l.take (l.findIdx c)
 | []=>rfl
 | x::l=>by
  rw[List.findIdx_cons]
  cases h:c x with
  | true=>rfl
  | false =>
   simp only[cond_false,List.take_succ_cons,List.filter_cons,h,Bool.not_false,if_true]
   rw[bc1 c l]
theorem vd3 {α:Type} (l:List α) (j:Nat) (h:j < l.length):l.take (j+1)=l.take j++[l[j]]:=by rw[List.take_succ_eq_append_getElem h]
theorem Zc8 {α:Type} (t:Ty α) {l:List α} {j:Nat} (h:j < l.length):l.take (j+1)=l.take j++[gL t l j]:=by rw[vd3 l j h,Oa7 t h]
theorem ic3 {α:Type} (t:Ty α) {l r:List α} {j:Nat} (h:l.drop j=r.drop j):gL t l j=gL t r j:=by
 have h1:=Zb1 t l j 0
 have h2:=Zb1 t r j 0
 rw[Nat.add_zero] at h1 h2
 rw[← h1,← h2,h]
theorem bc2 {α:Type} {l r:List α} {j:Nat} (h:l.drop j=r.drop j) (k:Nat):l.drop (j+k)=r.drop (j+k):=by rw[← List.drop_drop,← List.drop_drop,h]
structure Del (l:List Pln) (f:Pln→Bool) (cur:List Pln) (m j:Nat):Prop where
 len:cur.length=l.length
 t:cur.take m=(l.take j).filter f
 d:cur.drop j=l.drop j
 le:m≤j
 lm:m≤l.length
theorem nd8 (l : List Pln) (X : List Pt) (hl : l.length ≤ 1000000000) (hX : X.length ≤ 1000000000) (m j : Nat) (cur : List Pln) (hd : Del l (keep X) cur m j) :
  ∃ t s,lp (y7 ⟨l.length⟩) ⟨(m:Int),(j:Int),bL tP cur,X⟩=(t,s)∧(t=1∧∃ m' cur' k,s=⟨((m':Nat):Int),((k:Nat):Int),bL tP cur',X⟩∧Del l (keep X) cur' m' k∧l.length≤k):=by
 refine Ca4 (step:=y7 ⟨l.length⟩) (mk:=fun j (x:Nat×List Pln)=>(⟨(x.1:Int),(j:Int),bL tP x.2,X⟩:o8)) l.length (fun j x=>Del l (keep X) x.2 x.1 j) (fun t s=>t=1∧∃ m' cur' k,s=⟨((m':Nat):Int),((k:Nat):Int),bL tP cur',X⟩∧Del l (keep X) cur' m' k∧l.length≤k) hl (fun j x hj hx=>?_) (fun j x hj hx=>?_) j (m,cur) hd
 ·obtain⟨m,cur⟩:=x
  obtain⟨h1,h2,h3,h4,h5⟩:=hx
  simp only at h1 h2 h3 h4 h5
  have hjc:j < cur.length:=by omega
  have hmc:m < cur.length:=by omega
  have hg:gL tP cur j=gL tP l j:=ic3 tP h3
  have hWm:W ((m:Int)+1)=((m+1:Nat):Int):=by rw[ya3 (by omega) (by omega)];omega
  have hb:Nat.blt m cur.length=true:=by rw[Nat.blt_eq];exact hmc
  have hrow:i9 (bL tP cur) m=tP.row (gL tP cur m):=V7 tP hmc
  have sp:∀ (v:Pln) (x1 x2 x3 x4:Int),I7 (tP.row v) 0 [i x1,i x2,i x3,i x4]=tP.row ⟨⟨x1,x2,x3⟩,x4⟩:=fun _ _ _ _ _=>rfl
  have rl:∀ v:Pln,Nat.ble (0+4) (len (tP.row v))=true:=fun _=>rfl
  simp only[y7,B3,Int.toNat_natCast,m8,o0,ac4 hjc,Kb2 hjc,Dc4 _ _ hX,p4 hj (show l.length≤4611686018427387904 by omega),hWm]
  rw[btD (o2 hj),bt (f7 hj)]
  simp only[Nat.zero_add,hrow,O7,hb,sp,ob5,f7 (show m < l.length by omega),hg]
  have ht:=Zc8 tP hj
  have hd1:cur.drop (j+1)=l.drop (j+1):=bc2 h3 1
  cases hk:keep X (gL tP l j) with
  | true =>
   refine .nx ⟨(m+1,cur.set m (gL tP l j)),rfl,⟨by rw[List.length_set];exact h1,?_,?_,by omega,by show m+1≤l.length;omega⟩⟩
   ·show (cur.set m (gL tP l j)).take (m+1)=_
    rw[ht,List.filter_append,List.take_succ_eq_append_getElem (by rw[List.length_set];exact hmc),List.getElem_set_self,List.take_set_of_le (Nat.le_refl _),h2,List.filter_cons,hk,if_pos rfl,List.filter_nil]
   ·show (cur.set m (gL tP l j)).drop (j+1)=_
    rw[List.drop_set_of_lt (by omega),hd1]
  | false =>
   refine .nx ⟨(m,cur),rfl,⟨h1,?_,hd1,by omega,h5⟩⟩
   show cur.take m=_
   rw[ht,List.filter_append,h2,List.filter_cons,hk,if_neg (by simp),List.filter_nil,List.append_nil]
 ·obtain⟨m,cur⟩:=x
  refine⟨1,?_,rfl,m,cur,j,rfl,hx,hj⟩
  simp only[y7,B3]
  rw[bfD (by omega)]
theorem Ad5 (l:List Pln) (n:Nat):C7 (bL tP l) n=bL tP (l.take n):=by unfold bL;rw[C8,l6,l6,List.map_take]
theorem Zc9 (l:List Pln) (n:Nat):f0 (bL tP l) n=bL tP (l.drop n):=by unfold bL;rw[C9,l6,l6,List.map_drop]
theorem Ad6 (n:Nat):List.replicate n [i 0,i 0,i 0,i 0]=bL tP (List.replicate n ⟨⟨0,0,0⟩,0⟩):=by unfold bL;rw[l6,List.map_replicate];rfl
theorem Gd7 (l : List Pln) (X : List Pt) (hl : l.length ≤ 1000000000) (hX : X.length ≤ 1000000000) :
  ∃ m r,Q6 ⟨l.length,bL tP l,X⟩=⟨1,m,bL tP r,X⟩∧m≤r.length∧r.take m=l.filter (keep X)∧r.length=l.length:=by
 unfold Q6 C0
 simp only[m8,o0,be8 l X hl hX]
 cases ha:l.any fun p=>!keep X p with
 | false =>
  refine⟨l.length,l,rfl,Nat.le_refl _,?_,rfl⟩
  rw[List.take_length]
  symm
  rw[List.filter_eq_self]
  intro p hp
  have:=List.any_eq_false.1 ha p hp
  simpa using this
 | true =>
  have hf:l.findIdx (fun p=>!keep X p) < l.length:=by
   rw[List.any_eq_true] at ha
   obtain⟨p,hp,hc⟩:=ha
   exact List.findIdx_lt_length_of_exists ⟨p,hp,hc⟩
  have hk:keep X (gL tP l (l.findIdx fun p=>!keep X p))=false:=by
   have:=List.findIdx_getElem (xs:=l) (p:=fun p=>!keep X p) (w:=hf)
   rw[Oa7 tP hf]
   simpa using this
  have ht:=bc1 (fun p=>!keep X p) l
  simp only[Bool.not_not] at ht
  generalize hF:l.findIdx (fun p=>!keep X p)=F at *
  have hW:W ((F:Int)+1)=((F+1:Nat):Int):=p4 hf (by omega)
  have hne:((F:Int)==-1)=false:=by rw[beq_eq_false_iff_ne];omega
  obtain⟨t,s,e1,rfl,m,cur,k,e2,e3,e4⟩:=nd8 l X hl hX F (F+1) l ⟨rfl,by rw[Zc8 tP hf,List.filter_append,ht,List.filter_cons,hk,if_neg (by simp),List.filter_nil,List.append_nil],rfl,by omega,by omega⟩
  have hm:m≤l.length:=e3.lm
  have hin:inB (m:Int) (l.length+1)=true:=f7 (by omega)
  have hfin:cur.take m=l.filter (keep X):=by rw[e3.t,List.take_of_length_le e4]
  simp only[if_true,hW,hne,e1,e2,Int.toNat_natCast,hin,Nat.zero_add,Nat.sub_zero]
  refine⟨m,cur.take m++(List.replicate (l.length - m) ⟨⟨0,0,0⟩,0⟩++cur.drop (m+(l.length - m))),?_,?_,?_,?_⟩
  ·rw[Ad5,Ad6,Zc9,Ga1,Ga1]
   rfl
  ·rw[List.length_append,List.length_append,List.length_take,List.length_replicate,e3.len];omega
  ·rw[List.take_append_of_le_length (by rw[List.length_take,e3.len];omega),List.take_take,Nat.min_self,hfin]
  ·rw[List.length_append,List.length_append,List.length_take,List.length_replicate,List.length_drop,e3.len];omega
def eqP (x y:Pln):Bool:=x.n.x==y.n.x&&(x.n.y==y.n.y&&(x.n.z==y.n.z&&(x.b==y.b&&true)))
theorem be9 (x y:Pln):eqP x y=true↔x=y:=by
 unfold eqP
 simp only[Bool.and_true,Bool.and_eq_true,beq_iff_eq]
 refine⟨fun⟨h1,h2,h3,h4⟩=>?_,fun h=>by subst h;exact⟨rfl,rfl,rfl,rfl⟩⟩
 obtain⟨⟨x1,x2,x3⟩,x4⟩:=x
 obtain⟨⟨y1,y2,y3⟩,y4⟩:=y
 simp only at h1 h2 h3 h4
 subst h1 h2 h3 h4
 rfl
def ddF:Pln→List Pln→List Pln
 | _,[]=>[]
 | a,x::l=>if eqP x a then ddF x l else x::ddF x l
def dd:List Pln→List Pln
 | []=>[]
 | x::l=>x::ddF x l
structure Cmp (l:List Pln) (n:Nat) (cur:List Pln) (m j:Nat) (R:List Pln):Prop where
 len:cur.length=l.length
 t:cur.take m++ddF (gL tP l (j - 1)) ((l.take n).drop j)=R
 d:cur.drop (j - 1)=l.drop (j - 1)
 le:m+1≤j
theorem ad1 (l : List Pln) (n o : Nat) (hn : n ≤ l.length) (hl : l.length ≤ 1000000000) (ho : o < n) (m : Nat) (cur : List Pln) (R : List Pln) (hd : Cmp l n cur m (o + 1) R) :
  ∃ t s,lp (o7 ⟨n,0+o,n - o⟩) ⟨(m:Int),((1:Nat):Int),bL tP cur⟩=(t,s)∧(t=1∧∃ m' cur' k,s=⟨((m':Nat):Int),k,bL tP cur'⟩∧cur'.length=l.length∧cur'.take m'=R∧m'≤n):=by
 refine Ca4 (step:=o7 ⟨n,0+o,n - o⟩) (mk:=fun j (x:Nat×List Pln)=>(⟨(x.1:Int),(j:Int),bL tP x.2⟩:o4)) (n - o) (fun j x=>Cmp l n x.2 x.1 (o+j) R∧1≤j∧x.1≤n) (fun t s=>t=1∧∃ m' cur' k,s=⟨((m':Nat):Int),k,bL tP cur'⟩∧cur'.length=l.length∧cur'.take m'=R∧m'≤n) (by omega) (fun j x hj hx=>?_) (fun j x hj hx=>?_) 1 (m,cur) ⟨hd,Nat.le_refl _,by have:=hd.le;show m≤n;omega⟩
 ·obtain⟨m,cur⟩:=x
  obtain⟨⟨h1,h2,h3,h4⟩,hj1,hmn⟩:=hx
  simp only at h1 h2 h3 h4 hmn
  have hoj:o+j < n:=by omega
  have hjc:o+j < cur.length:=by omega
  have hjc':o+(j - 1) < cur.length:=by omega
  have hmc:m < cur.length:=by omega
  have hg':gL tP cur (o+(j - 1))=gL tP l (o+j - 1):=by rw[show o+(j - 1)=o+j - 1 by omega];exact ic3 tP h3
  have hd1:cur.drop (o+j)=l.drop (o+j):=by have:=bc2 h3 1;rw[show o+j - 1+1=o+j by omega] at this;exact this
  have hg:gL tP cur (o+j)=gL tP l (o+j):=ic3 tP hd1
  have hWm:W ((m:Int)+1)=((m+1:Nat):Int):=by rw[ya3 (by omega) (by omega)];omega
  have hWj:W ((j:Int) - 1)=((j - 1:Nat):Int):=by rw[ya3 (by omega) (by omega)];omega
  have hb:Nat.blt m cur.length=true:=by rw[Nat.blt_eq];exact hmc
  have hrow:i9 (bL tP cur) m=tP.row (gL tP cur m):=V7 tP hmc
  have sp:∀ (v:Pln) (x1 x2 x3 x4:Int),I7 (tP.row v) 0 [i x1,i x2,i x3,i x4]=tP.row ⟨⟨x1,x2,x3⟩,x4⟩:=fun _ _ _ _ _=>rfl
  have rl:∀ v:Pln,Nat.ble 4 (len (tP.row v))=true:=fun _=>rfl
  simp only[o7,G4,Int.toNat_natCast,Nat.zero_add,hWj,Tc1 tP hjc,Tc1 tP hjc',Tc0 tP hjc,Tc0 tP hjc',p4 hj (show n - o≤4611686018427387904 by omega),hWm,hg,hg',hrow,O7,hb,sp,rl,ob5,f7 (show m < n by omega)]
  rw[btD (o2 hj)]
  simp only[f7 hj,f7 (show j - 1 < n - o by omega),p5,Bool.and_self]
  rw[show ((gL tP l (o+j)).n.x==(gL tP l (o+j - 1)).n.x&&((gL tP l (o+j)).n.y==(gL tP l (o+j - 1)).n.y&&((gL tP l (o+j)).n.z==(gL tP l (o+j - 1)).n.z&&((gL tP l (o+j)).b==(gL tP l (o+j - 1)).b&&true))))=eqP (gL tP l (o+j)) (gL tP l (o+j - 1)) from rfl]
  have hcons:(l.take n).drop (o+j)=gL tP l (o+j)::(l.take n).drop (o+(j+1)):=by
   rw[List.drop_eq_getElem_cons (by rw[List.length_take];omega),List.getElem_take,Oa7 tP (by omega)]
   rfl
  rw[hcons] at h2
  have hlast:o+(j+1) - 1=o+j:=by omega
  unfold ddF at h2
  cases he:eqP (gL tP l (o+j)) (gL tP l (o+j - 1)) with
  | true =>
   rw[he] at h2
   simp only[if_true] at h2
   refine .nx ⟨(m,cur),rfl,⟨⟨h1,?_,?_,by show m+1≤o+(j+1);omega⟩,by omega,hmn⟩⟩
   ·rw[hlast];exact h2
   ·rw[hlast];exact hd1
  | false =>
   rw[he] at h2
   simp only[Bool.false_eq_true,if_false] at h2
   refine .nx ⟨(m+1,cur.set m (gL tP l (o+j))),rfl,⟨⟨by rw[List.length_set];exact h1,?_,?_,by show m+1+1≤o+(j+1);omega⟩,by omega,by show m+1≤n;omega⟩⟩
   ·rw[hlast]
    show (cur.set m (gL tP l (o+j))).take (m+1)++_=R
    rw[List.take_succ_eq_append_getElem (by rw[List.length_set];exact hmc),List.getElem_set_self,List.take_set_of_le (Nat.le_refl _),List.append_assoc]
    exact h2
   ·rw[hlast]
    show (cur.set m (gL tP l (o+j))).drop (o+j)=_
    rw[List.drop_set_of_lt (by omega),hd1]
 ·obtain⟨m,cur⟩:=x
  obtain⟨⟨h1,h2,h3,h4⟩,hj1,hmn⟩:=hx
  simp only at h1 h2 h3 h4 hmn
  refine⟨1,?_,rfl,m,cur,_,rfl,h1,?_,hmn⟩
  ·simp only[o7,G4]
   rw[bfD (by omega)]
  ·rw[List.drop_eq_nil_of_le (by rw[List.length_take];omega)] at h2
   unfold ddF at h2
   rw[List.append_nil] at h2
   exact h2
theorem vd4 (l : List Pln) (n : Nat) (hn : n ≤ l.length) (hl : l.length ≤ 1000000000) :
  ∃ m r,aa0 ⟨n,bL tP l⟩=⟨1,m,bL tP r⟩∧m≤r.length∧r.take m=dd (l.take n):=by
 unfold aa0 H6
 simp only
 by_cases h2:(n:Int) < 2
 ·rw[btD h2]
  refine⟨n,l,rfl,hn,?_⟩
  have:n=0∨n=1:=by omega
  rcases this with rfl | rfl
  ·rfl
  ·cases l with
   | nil=>rfl
   | cons x l=>rfl
 ·rw[bfD h2]
  have h1n:1≤n:=by omega
  have hI : ∀ j, j < n → 1 ≤ j → l.take j ++ ddF (gL tP l (j - 1)) ((l.take n).drop j) = dd (l.take n) →
    (eqP (gL tP l j) (gL tP l (j - 1))=true→Cmp l n l j (j+1) (dd (l.take n)))∧(eqP (gL tP l j) (gL tP l (j - 1))=false→l.take (j+1)++ddF (gL tP l (j+1 - 1)) ((l.take n).drop (j+1))=dd (l.take n)):=by
   intro j hj hj1 hR
   have hcons:(l.take n).drop j=gL tP l j::(l.take n).drop (j+1):=by
    rw[List.drop_eq_getElem_cons (by rw[List.length_take];omega),List.getElem_take,Oa7 tP (by omega)]
   rw[hcons] at hR
   unfold ddF at hR
   constructor
   ·intro he
    rw[he] at hR
    simp only[if_true] at hR
    exact⟨rfl,hR,rfl,Nat.le_refl _⟩
   ·intro he
    rw[he] at hR
    simp only[Bool.false_eq_true,if_false] at hR
    rw[Zc8 tP (show j < l.length by omega),List.append_assoc]
    exact hR
  have inner:∀ k,k < n→1≤k→Cmp l n l k (k+1) (dd (l.take n))→∃ m' cur' k',lp (o7 ⟨n,0+k,n - k⟩) ⟨(k:Int),1,bL tP l⟩=(1,⟨((m':Nat):Int),k',bL tP cur'⟩)∧cur'.length=l.length∧cur'.take m'=dd (l.take n)∧m'≤n:=by
   intro k hk hk1 hc
   obtain⟨t,s,e1,rfl,m',cur',k',rfl,e2,e3,e4⟩:=ad1 l n k hn hl hk k l _ hc
   exact⟨m',cur',k',e1,e2,e3,e4⟩
  have key:=Ca4 (step:=H9 ⟨n,bL tP l⟩) (mk:=fun j (_:Unit)=>(⟨(j:Int)⟩:p0)) n (fun j _=>1≤j∧j≤n∧l.take j++ddF (gL tP l (j - 1)) ((l.take n).drop j)=dd (l.take n))
   (fun t s=>(t=1∧∃ k:Nat,s=⟨(k:Int)⟩∧k < n∧1≤k∧Cmp l n l k (k+1) (dd (l.take n)))∨(t=2∧l.take n=dd (l.take n))) (by omega) (fun j x hj hx=>?_) (fun j x hj hx=>?_) 1 () ⟨Nat.le_refl _,h1n,by
    cases l with
    | nil=>simp only[List.length_nil] at hn;omega
    | cons x l =>
     cases n with
     | zero=>omega
     | succ n=>rfl⟩
  ·obtain⟨t,s,e1,e2⟩:=key
   rw[show (⟨1⟩:p0)=⟨((1:Nat):Int)⟩ from rfl,e1]
   rcases e2 with⟨rfl,k,rfl,hk,hk1,hc⟩ | ⟨rfl,he⟩
   ·obtain⟨m',cur',k',e2,e3,e4,e5⟩:=inner k hk hk1 hc
    simp only[Int.toNat_natCast,e2]
    simp only[Nat.zero_add,Nat.sub_zero]
    refine⟨m',cur'.take m'++(List.replicate (n - m') ⟨⟨0,0,0⟩,0⟩++cur'.drop (m'+(n - m'))),?_,?_,?_⟩
    ·rw[Ad5,Ad6,Zc9,Ga1,Ga1]
     rfl
    ·rw[List.length_append,List.length_take,e3];omega
    ·rw[List.take_append_of_le_length (by rw[List.length_take,e3];omega),List.take_take,Nat.min_self,e4]
   ·exact⟨n,l,rfl,hn,he⟩
  ·obtain⟨hj1,hjn,hR⟩:=hx
   obtain⟨i1,i2⟩:=hI j hj hj1 hR
   have hWj:W ((j:Int) - 1)=((j - 1:Nat):Int):=by rw[ya3 (by omega) (by omega)];omega
   have hjl:j < l.length:=by omega
   have hjl':j - 1 < l.length:=by omega
   simp only[H9,G5,Int.toNat_natCast,hWj,ac4 hjl,ac4 hjl',Kb2 hjl,Kb2 hjl',p4 hj (show n≤4611686018427387904 by omega)]
   rw[btD (o2 hj),bt (f7 hj),bt (f7 (show j - 1 < n by omega)),bt (f7 (show j < n+1 by omega))]
   simp only[p5]
   rw[show ((gL tP l j).n.x==(gL tP l (j - 1)).n.x&&((gL tP l j).n.y==(gL tP l (j - 1)).n.y&&((gL tP l j).n.z==(gL tP l (j - 1)).n.z&&((gL tP l j).b==(gL tP l (j - 1)).b&&true))))=eqP (gL tP l j) (gL tP l (j - 1)) from rfl]
   cases he:eqP (gL tP l j) (gL tP l (j - 1)) with
   | false=>exact .nx ⟨(),rfl,by omega,by omega,i2 he⟩
   | true =>
    obtain⟨m',cur',k',e2,e3,e4,e5⟩:=inner j hj hj1 (i1 he)
    rw[e2]
    simp only[f7 (show m' < n+1 by omega)]
    exact .ex (.inl ⟨rfl,j,rfl,hj,hj1,i1 he⟩)
  ·obtain⟨hj1,hjn,hR⟩:=hx
   refine⟨2,?_,.inr ⟨rfl,?_⟩⟩
   ·simp only[H9,G5]
    rw[bfD (by omega)]
   ·have:j=n:=by omega
    subst this
    rw[List.drop_eq_nil_of_le (by rw[List.length_take];omega)] at hR
    unfold ddF at hR
    rw[List.append_nil] at hR
    exact hR
theorem Sd2 (l:List Pln) (n:Nat) (hn:n≤l.length):slR tP (bL tP l) 0 n=l.take n:=uc7 tP (by rw[List.length_take];omega) fun k hk=>by
 rw[Nat.zero_add,V7 tP (by omega)]
 congr 1
 simp[gL,List.getD_eq_getElem?_getD,List.getElem?_take,hk]
theorem Sd3 (l:List Pln) (n:Nat) (hn:n≤l.length):okS tP (bL tP l) 0 n=true:=sb8 tP (f:=fun k=>gL tP l k) fun k hk=>by rw[Nat.zero_add,V7 tP (by omega)]
noncomputable def lean (c:List Pln):List Pln:=if ful c then dd (yb4 (c.filter (keep (pts c)))) else []
theorem Ad7 (p:Pln) (c:List Pln) (hc:c.length≤1000000):Rd (one (r1L tP)) (Sa4 (p,c)) (fun r=>r=lean (p::c)):=by
 have hl:(p::c).length≤1000000000:=by simp only[List.length_cons];omega
 have hX:=Zb9 (p::c)
 unfold Sa4 lean
 simp only[m8,K6,o0,pe1,pe2,gc1 hl,gc2 hl,qb3 hl,qb4 hl]
 cases hf:ful (p::c) with
 | false=>exact⟨_,[],rfl,rfl,rfl⟩
 | true =>
  have ec:l8 (fun k=>tP.row (gL tP (p::c) k)) (List.range (c.length+1))=bL tP (p::c):=ab1 tP (p::c)
  have hcl:ga7 (p,c)=⟨1,(p::c).length,bL tP (p::c)⟩:=by
   unfold ga7 L5
   simp only[ec,O7]
   have z:Nat.beq (p::c).length 0=false:=rfl
   have r:Nat.ble ((0+(p::c).length)*32) room=true:=ma1 (by simp only[List.length_cons];omega)
   rw[z,r,Nat.zero_add]
   rfl
  obtain⟨m,r,e1,e2,e3,e4⟩:=Gd7 (p::c) (pts (p::c)) hl (by omega)
  have hm:m≤(p::c).length:=by
   have h1:=congrArg List.length e3
   have h2:=List.length_filter_le (keep (pts (p::c))) (p::c)
   rw[List.length_take] at h1
   omega
  have hs:(yb4 (r.take m)).length=m:=by rw[Qc1,List.length_take];omega
  have hrows:app (bL tP (yb4 (r.take m))) (f0 (bL tP r) m)=bL tP (yb4 (r.take m)++r.drop m):=by rw[Zc9,Ga1]
  have hok:okL tP (c.length+1) (fun k=>tP.row (gL tP (p::c) k))=true:=sb8 tP (f:=fun k=>gL tP (p::c) k) fun _ _=>rfl
  simp only[hcl,e1,Sd2 r m e2,Sd3 r m e2,hrows,hok]
  obtain⟨m2,r2,k1,k2,k3⟩:=vd4 (yb4 (r.take m)++r.drop m) m (by rw[List.length_append,hs];omega) (by rw[List.length_append,hs,List.length_drop,e4];omega)
  rw[k1,O7]
  have q1:Nat.ble m room=true:=by rw[Nat.ble_eq];unfold room;simp only[List.length_cons] at hm;omega
  have q2:Nat.ble m r.length=true:=by rw[Nat.ble_eq];exact e2
  rw[q1,q2]
  have hfin:r2.take m2=dd (yb4 ((p::c).filter (keep (pts (p::c))))):=by
   rw[k3,List.take_append_of_le_length (by rw[hs];omega),List.take_of_length_le (by rw[hs];omega),e3]
  exact Qd9 k2 rfl hfin
theorem me9 (p:Pln) (c:List Pln) (hc:c.length≤1000000):Gb7 (p,c)=lean (p::c):=(Ad7 p c hc).p
theorem ne0 (p:Pln) (c:List Pln) (hc:c.length≤1000000):Gb8 (p,c)=true:=(Ad7 p c hc).g
end Go.Ev.Ce
namespace Go.Ev.Ce
open Go Go.Ev Go.Ev.L Go.Proofs Go.Sort
theorem vd5 (l:List Pln):List.Perm (yb4 l) l:=List.mergeSort_perm l _
theorem Gd8 (x y z:Pln) (h1:(!ltOf nb7 y x)=true) (h2:(!ltOf nb7 z y)=true):(!ltOf nb7 z x)=true:=by
 simp only[Bool.not_eq_true',Za0,decide_eq_false_iff_not] at *
 unfold LtP at *
 omega
theorem Gd9 (x y:Pln):((!ltOf nb7 y x)||!ltOf nb7 x y)=true:=by
 simp only[Bool.or_eq_true,Bool.not_eq_true',Za0,decide_eq_false_iff_not]
 unfold LtP
 omega
theorem ad2 (l:List Pln):(yb4 l).Pairwise fun x y=>(!ltOf nb7 y x)=true:=List.pairwise_mergeSort Gd8 Gd9 l
theorem ad3 {l r:List Pln} (hp:List.Perm r l) (hs:r.Pairwise fun x y=>(!ltOf nb7 y x)=true):yb4 l=r :=
 List.Perm.eq_of_pairwise (fun x y _ _ h1 h2=>ve8 x y (by simpa using h2) (by simpa using h1)) (ad2 l) hs ((vd5 l).trans hp.symm)
instance:DecidableEq Pln:=fun x y=>decidable_of_iff _ (be9 x y)
def U6:List Pln:=[⟨⟨1,0,0⟩,1⟩,⟨⟨-1,0,0⟩,0⟩,⟨⟨0,1,0⟩,1⟩,⟨⟨0,-1,0⟩,0⟩,⟨⟨0,0,1⟩,1⟩,⟨⟨0,0,-1⟩,0⟩]
def U8:List Pln:=[⟨⟨-1,0,0⟩,0⟩,⟨⟨0,1,0⟩,1⟩,⟨⟨0,-1,0⟩,0⟩,⟨⟨0,0,1⟩,1⟩,⟨⟨0,0,-1⟩,0⟩,⟨⟨1,0,0⟩,1⟩,⟨⟨1,1,1⟩,3⟩,⟨⟨1,0,0⟩,7⟩]
def C4:List Pln:=[⟨⟨-1,0,0⟩,0⟩,⟨⟨0,-1,0⟩,0⟩,⟨⟨0,0,-1⟩,0⟩,⟨⟨2,3,4⟩,1⟩]
def U7:List Pln:=[⟨⟨1,0,0⟩,1⟩,⟨⟨-1,0,0⟩,0⟩,⟨⟨0,1,0⟩,1⟩,⟨⟨0,-1,0⟩,0⟩,⟨⟨0,0,1⟩,1⟩,⟨⟨0,0,-1⟩,0⟩,⟨⟨-1,0,0⟩,-1⟩]
def LU:List Pln:=[⟨⟨-1,0,0⟩,0⟩,⟨⟨0,-1,0⟩,0⟩,⟨⟨0,0,-1⟩,0⟩,⟨⟨0,0,1⟩,1⟩,⟨⟨0,1,0⟩,1⟩,⟨⟨1,0,0⟩,1⟩]
def PU:List Pt:=[⟨1,1,1,1⟩,⟨1,1,0,1⟩,⟨1,0,1,1⟩,⟨1,0,0,1⟩,⟨0,1,1,1⟩,⟨0,1,0,1⟩,⟨0,0,1,1⟩,⟨0,0,0,1⟩]
def PC:List Pt:=[⟨0,0,0,1⟩,⟨0,0,1,4⟩,⟨0,1,0,3⟩,⟨1,0,0,2⟩]
theorem ne1:pts U6=PU:=by kernel_rfl
theorem ne2:pts C4=PC:=by kernel_rfl
theorem ne3:ful []=true:=by kernel_rfl
theorem ne4:ful U7=false:=by kernel_rfl
theorem ne5:has U6 ⟨1,0,0⟩=true:=by kernel_rfl
theorem ne6:has U6 ⟨2,0,0⟩=false:=by kernel_rfl
theorem we2:bnd C4=(⟨0,0,0⟩,⟨1,1,1⟩,true):=by kernel_rfl
theorem we3:apart U6 [⟨⟨-1,0,0⟩,-1⟩]=true:=by kernel_rfl
theorem we4:apart U6 [⟨⟨-1,-1,0⟩,-1⟩]=false:=by kernel_rfl
theorem we5:Rd7 U6 [⟨⟨1,1,1⟩,3⟩]=true:=by kernel_rfl
theorem we6:Rd7 U6 [⟨⟨1,1,1⟩,2⟩]=false:=by kernel_rfl
theorem we7:chk [⟨⟨0,0,0⟩,0⟩]=12:=by kernel_rfl
theorem we8:(⟨⟨1,0,0⟩,1⟩::U8).filter (keep (pts (⟨⟨1,0,0⟩,1⟩::U8)))=[⟨⟨1,0,0⟩,1⟩,⟨⟨-1,0,0⟩,0⟩,⟨⟨0,1,0⟩,1⟩,⟨⟨0,-1,0⟩,0⟩,⟨⟨0,0,1⟩,1⟩,⟨⟨0,0,-1⟩,0⟩,⟨⟨1,0,0⟩,1⟩]:=by kernel_rfl
theorem ne7:ful (⟨⟨1,0,0⟩,1⟩::U8)=true:=by kernel_rfl
theorem ne8:lean (⟨⟨1,0,0⟩,1⟩::U8)=LU:=by
 unfold lean
 rw[ne7,if_pos rfl,we8,ad3 (r:=[⟨⟨-1,0,0⟩,0⟩,⟨⟨0,-1,0⟩,0⟩,⟨⟨0,0,-1⟩,0⟩,⟨⟨0,0,1⟩,1⟩,⟨⟨0,1,0⟩,1⟩,⟨⟨1,0,0⟩,1⟩,⟨⟨1,0,0⟩,1⟩])]
 ·rfl
 ·exact List.isPerm_iff.1 (by kernel_rfl)
 ·exact of_decide_eq_true (by kernel_rfl)
theorem ce0:xb2=⟨1,0,1,0,1,0⟩:=by kernel_rfl
theorem Qc3:va3=some (b true,[]):=by
 have le:∀ {c:List Pln},c.length≤100→c.length≤1000000000:=fun h=>by omega
 have le':∀ {c:List Pln},c.length≤100→c.length≤100000000:=fun h=>by omega
 have u:U6.length≤100:=by decide
 have u7:U7.length≤100:=by decide
 have u8:U8.length≤1000000:=by decide
 have c4:C4.length≤100:=by decide
 have n0:([]:List Pln).length≤100:=by decide
 have o1:∀ p:Pln,[p].length≤100:=fun _=>(by decide:1≤100)
 unfold va3
 rw[ce0]
 simp only[m8,K6]
 rw[show ([⟨⟨1,0,0⟩,1⟩,⟨⟨-1,0,0⟩,0⟩,⟨⟨0,1,0⟩,1⟩,⟨⟨0,-1,0⟩,0⟩,⟨⟨0,0,1⟩,1⟩,⟨⟨0,0,-1⟩,0⟩,⟨⟨-1,0,0⟩,-1⟩]:List Pln)=U7 from rfl,
  show ([⟨⟨-1,0,0⟩,0⟩,⟨⟨0,1,0⟩,1⟩,⟨⟨0,-1,0⟩,0⟩,⟨⟨0,0,1⟩,1⟩,⟨⟨0,0,-1⟩,0⟩,⟨⟨1,0,0⟩,1⟩,⟨⟨1,1,1⟩,3⟩,⟨⟨1,0,0⟩,7⟩]:List Pln)=U8 from rfl,
  show ([⟨⟨1,0,0⟩,1⟩,⟨⟨-1,0,0⟩,0⟩,⟨⟨0,1,0⟩,1⟩,⟨⟨0,-1,0⟩,0⟩,⟨⟨0,0,1⟩,1⟩,⟨⟨0,0,-1⟩,0⟩]:List Pln)=U6 from rfl,
  show ([⟨⟨-1,0,0⟩,0⟩,⟨⟨0,-1,0⟩,0⟩,⟨⟨0,0,-1⟩,0⟩,⟨⟨2,3,4⟩,1⟩]:List Pln)=C4 from rfl,
  show ([⟨⟨-1,0,0⟩,0⟩,⟨⟨0,-1,0⟩,0⟩,⟨⟨0,0,-1⟩,0⟩,⟨⟨0,0,1⟩,1⟩,⟨⟨0,1,0⟩,1⟩,⟨⟨1,0,0⟩,1⟩]:List Pln)=LU from rfl]
 simp only[qb3 (le u),qb4 (le u),qb3 (le c4),qb4 (le c4),ne1,ne2,me9 _ U8 u8,ne0 _ U8 u8,ne8,gc1 (le n0),gc2 (le n0),ne3,gc1 (le u7),gc2 (le u7),ne4,
  ve5 (le u),ve6 (le u),ne5,ne6,zd9 (le c4),Ad0 (le c4),we2,be1 (le' u) (le' (o1 _)),be2 (le' u) (le' (o1 _)),we3,we4,Rd8 (le u) (le (o1 _)),Rd9 (le u) (le (o1 _)),we5,we6,
  Wc7 _ (le (o1 _)),Wc8 _ (le (o1 _)),we7]
 rw[show ([⟨1,1,1,1⟩,⟨1,1,0,1⟩,⟨1,0,1,1⟩,⟨1,0,0,1⟩,⟨0,1,1,1⟩,⟨0,1,0,1⟩,⟨0,0,1,1⟩,⟨0,0,0,1⟩]:List Pt)=PU from rfl,
  show ([⟨0,0,0,1⟩,⟨0,0,1,4⟩,⟨0,1,0,3⟩,⟨1,0,0,2⟩]:List Pt)=PC from rfl]
 simp only[wb5 PU (by decide),wb6 PU (by decide),wb5 PC (by decide),wb6 PC (by decide),me0 LU (by decide),me1 LU (by decide)]
 rfl
theorem Sd4:Ka2=true:=by unfold Ka2;rw[Qc3];rfl
theorem Sd5:Ka3=true:=by unfold Ka3;rw[Qc3];rfl
end Go.Ev.Ce
section
namespace Go.Ev.Ce
open Go Go.Ev Go.Ev.L Go.Proofs
set_option maxRecDepth 100000
noncomputable def eb4:List (Nat×Sum):=[(13,Gb9),(14,Nb5),(15,Wa9),(16,ib7),(18,pa5),(19,tb6),(17,Na0),(20,Ea6),(21,ub1),(22,vb2),(23,kc0)]
theorem Lb5:j7 prog G eb4:=⟨pc4,Cc1,lb7,tb5,ta8,Mb7,jb4,Ia3,Eb5,Nb2,Vc3,trivial⟩
structure Y0 where
 bs7:Bool
 H7:List (List Pln)
 da2:Int
structure E3 where
 Fa1:Int
noncomputable def Hb0 (p:Y0) (s:E3):St:=⟨(ra 7 ((b p.bs7)::(ra 12 ((eL (tLs tP) p.H7)::((i p.da2)::((i s.Fa1)::(ra 50 []))))))),[]⟩
noncomputable def R6 {α:Type} (k:E3→α) (e:Nat→α) (z:α) (p:Y0) (s:E3):α:=let t1:=(wa6 (rt tP (gL (tLs tP) p.H7 s.Fa1.toNat)));let t2:=(Ea2 (rt tP (gL (tLs tP) p.H7 s.Fa1.toNat)));let t3:=(T1 (rt tP (gL (tLs tP) p.H7 s.Fa1.toNat)));let t4:=(Ga7 (rt tP (gL (tLs tP) p.H7 s.Fa1.toNat)));let t5:=(aa7 (rt tX t3) (rt tX t4));let t6:=(fa6 (rt tP (gL (tLs tP) p.H7 s.Fa1.toNat)));let t7:=(Da2 (rt tP (gL (tLs tP) p.H7 s.Fa1.toNat)));let t8:=(Ia6 (rt tP (gL (tLs tP) p.H7 s.Fa1.toNat)));let t9:=(ib8 (rt tP (gL (tLs tP) p.H7 s.Fa1.toNat)));(sl (decide (s.Fa1 < p.da2)) (sl (inB s.Fa1 (List.length p.H7)) (sl (okE tP (gL (tLs tP) p.H7 s.Fa1.toNat)) (sl (wa7 (rt tP (gL (tLs tP) p.H7 s.Fa1.toNat))) (sl (okE tP (gL (tLs tP) p.H7 s.Fa1.toNat)) (sl (Ea3 (rt tP (gL (tLs tP) p.H7 s.Fa1.toNat))) (sl (t1 != t2) (e 1) (sl (okE tP (gL (tLs tP) p.H7 s.Fa1.toNat)) (sl (T2 (rt tP (gL (tLs tP) p.H7 s.Fa1.toNat))) (sl (okE tP (gL (tLs tP) p.H7 s.Fa1.toNat)) (sl (Ga8 (rt tP (gL (tLs tP) p.H7 s.Fa1.toNat))) (sl (okE tX t3) (sl (okE tX t4) (sl (aa8 (rt tX t3) (rt tX t4)) (sl (!t5) (e 1) (sl (okE tP (gL (tLs tP) p.H7 s.Fa1.toNat)) (sl (fa7 (rt tP (gL (tLs tP) p.H7 s.Fa1.toNat))) (sl (okE tP (gL (tLs tP) p.H7 s.Fa1.toNat)) (sl (sa8 (rt tP (gL (tLs tP) p.H7 s.Fa1.toNat))) (sl (!(t6==t7)) (e 1) (sl (okE tP (gL (tLs tP) p.H7 s.Fa1.toNat)) (sl (Ia7 (rt tP (gL (tLs tP) p.H7 s.Fa1.toNat))) (sl (okE tP (gL (tLs tP) p.H7 s.Fa1.toNat)) (sl (ib9 (rt tP (gL (tLs tP) p.H7 s.Fa1.toNat))) (sl (!((t8.1.x==t9.1.x)&&((t8.1.y==t9.1.y)&&((t8.1.z==t9.1.z)&&true)))) (e 1) (sl (!((t8.2.1.x==t9.2.1.x)&&((t8.2.1.y==t9.2.1.y)&&((t8.2.1.z==t9.2.1.z)&&true)))) (e 1) (sl (!(t8.2.2==t9.2.2)) (e 1) (k ⟨(W (s.Fa1+1))⟩)))) z) z) z) z)) z) z) z) z)) z) z) z) z) z) z) z)) z) z) z) z) z) (e 2))
noncomputable def L6 (p:Y0) (s:E3):Stp E3:=R6 .next .exit .fail p s
noncomputable def ya6:Lo Y0 E3:=⟨En eb4,0,pf3,[1,1,0,1,4,4],[7,20,21,22],.p,[⟨(ru2 7 ((.s (.o .bool))::(ru2 12 ((.s (.c 1 (nL (tLs tP))))::((.s (.o (.int .i64)))::((.s (.o (.int .i64)))::(ru2 50 []))))))),[],fun a H=>(⟨(toB (slT a 7)),(rL (tLs tP) (slT a 20)),(toI (slT a 21))⟩,⟨(toI (slT a 22))⟩)⟩],L6,[(none,fun p s=>⟨[(b false)],[]⟩),(some 0,fun p s=>⟨(ra 7 ((b p.bs7)::(ra 12 ((eL (tLs tP) p.H7)::((i p.da2)::((i s.Fa1)::((b (decide (s.Fa1 < p.da2)))::(ra 49 [])))))))),[]⟩)],Hb0⟩
theorem Hb1:ya6.Ok:=Lo.ok [] (by kernel_rfl) .nil rfl (.cons (fun a H=>by kernel_rfl) .nil) fun p s=>(.of @R6 (fun F _ _ _ _ _=>by unfold R6;(repeat' apply l7 (f:=F))<;>rfl) (by kernel_rfl))
noncomputable def ga8 (x:List Int) (y:Q2) (z:List Pln):Option (b7×List b8):=let t1:=Ka2;let t2:=(nb2 (rt tI x) y (rt tP z));let t3:=(lp (L6 (⟨t1,(rt (tLs tP) t2),(↑(List.length t2):Int)⟩:Y0)) (⟨0⟩:E3));(sl Ka3 (sl (okE tI x) (sl (okE tP z) (sl (nb3 (rt tI x) y (rt tP z)) (sl ((cnE (tLs tP) t2)&&true) (sl (Nat.beq t3.1 1) (some ((b false),[])) (sl (Nat.beq t3.1 2) (some ((b t1),[])) none)) none) none) none) none) none)
noncomputable def ra5 (x:List Int) (y:Q2) (z:List Pln):Bool:=I5 (one r1B) (ga8 x y z)
noncomputable def ra6 (x:List Int) (y:Q2) (z:List Pln):Bool:=okO (one r1B) (ga8 x y z)
noncomputable def Ka4:Sum:=mc0 (V2 tI) (R2 tQ) (V2 tP) (fun x y z=>.guard (ra6 x y z) (.ret ((one r1B).enc (ra5 x y z),[])))
theorem Sb1:g7 prog G 3 Ka4:=Vd2 (bd b3 Lb5) (one r1B) (o:=ga8) fun x y z=>ya4 (.s .p (.s .p (.s (.s .p (.b (.u ya6.ls))) .p))) [ya6.pr] (by kernel_rfl) (.cons Hb1 .nil) (by kernel_rfl)
end Go.Ev.Ce
end
namespace Go.Ev.Ce
open Go Go.Ev Go.Ev.L Go.Proofs
theorem vd6 (l:List (List Pln)) (c0:Bool) (hl:l.length≤1000000000) (hc:∀ c∈l,c.length≤1000000):(lp (L6 ⟨c0,l,(l.length:Int)⟩) ⟨0⟩).1=2:=by
 have h:=kb5 (step:=L6 ⟨c0,l,(l.length:Int)⟩) (mk:=fun j=>(⟨(j:Int)⟩:E3)) (c:=fun _=>false) (u:=1) (fin:=2) (tLs tP) l hl
  (fun j hj=>by
   have hlen:(gL (tLs tP) l j).length≤1000000000:=Nat.le_trans (hc _ (dc1 (tLs tP) hj)) (by omega)
   have hp:=Zb9 (gL (tLs tP) l j)
   simp only[L6,R6,Int.toNat_natCast,m8,K6,Wc7 _ hlen,Wc8 _ hlen,zc2 _ hlen,zc3 _ hlen,qb3 hlen,qb4 hlen,Pc0 hlen,Pc1 hlen,
    wb5 (pts (gL (tLs tP) l j)) (by omega),wb6 (pts (gL (tLs tP) l j)) (by omega),gc1 hlen,gc2 hlen,zd6 hlen,Xc3 hlen,zd9 hlen,Ad0 hlen,Pd4 hlen,Pd5 hlen,
    p4 hj (show l.length≤4611686018427387904 by omega),bne_self_eq_false,beq_self_eq_true,Bool.and_self,Bool.not_true,p5,ob4]
   rw[btD (o2 hj),bt (f7 hj)])
  (by simp only[L6,R6];rw[bfD (U5 (Nat.lt_irrefl _))]) 0 (Nat.zero_le _)
 rw[List.drop_zero,show (l.any fun _=>false)=false by simp] at h
 exact h
theorem nd9 (x:List Int) (y:Q2) (z:List Pln):ga8 x y z=some (b true,[]):=by
 have h:=vd6 (Gb2 x y z) true (by simp[Gb2]) (Gd6 x y z)
 unfold ga8
 simp only[m8,K6,o0,Sd4,Sd5,be0,ae9,h]
 rfl
theorem ce1 (x:List Int) (y:Q2) (z:List Pln):ra5 x y z=true:=by unfold ra5;rw[nd9];rfl
theorem ce2 (x:List Int) (y:Q2) (z:List Pln):ra6 x y z=true:=by unfold ra6;rw[nd9];rfl
end Go.Ev.Ce
namespace Go.Ev
open Go Go.ChangeShapes Go.RowKit
structure Dc5 (w w':World):Prop where
 os:w'.os=w.os
 output:w'.output=w.output
 size:w.heap.size≤w'.heap.size
 block:∀ k,k < w.heap.size→w'.heap[k]?=w.heap[k]?
theorem Dc5.kept {w w':World} (h:Dc5 w w') (may:MemPlace→Prop):w.keptBut w' may:=by
 refine⟨h.os,h.output,fun i hi=>?_⟩
 rw[h.block i hi]
 cases w.heap[i]? with
 | none=>rfl
 | some o=>cases o<;>first | exact⟨rfl,rfl,rfl,fun _ _=>rfl⟩ | exact .inr ⟨rfl,rfl⟩ | rfl
theorem Dc5.frozen {w w':World} (h:Dc5 w w') (b off:Nat) (hb:b < w.heap.size):w'.frozen? ⟨b,off,none⟩=w.frozen? ⟨b,off,none⟩:=by
 simp only[World.frozen?,h.block b hb]
theorem Dc5.cell {w w':World} (h:Dc5 w w') (b off:Nat) (hb:b < w.heap.size):w'.cell? ⟨b,off,none⟩=w.cell? ⟨b,off,none⟩:=by
 simp only[World.cell?,h.block b hb]
theorem Dc5.same {w w':World} (h:Dc5 w w') (p:MemPlace) (hp:p.block < w.heap.size):w.sameAt w' p:=by
 cases p with
 | cell b off=>exact h.cell b off hp
 | map b=>exact h.block b hp
theorem Hb2 {α β:Type} {f:α→Option β}:∀ {l:List α} {r:List β},l.mapM f=some r→r.length=l.length∧∀ (j:Nat) y,r[j]?=some y→∃ x,l[j]?=some x∧f x=some y
 | [],r,h=>by
  have:r=[]:=by simpa using h.symm
  subst this;simp
 | x::l,r,h=>by
  rw[List.mapM_cons] at h
  obtain⟨y,h1,h2⟩:=Option.bind_eq_some_iff.1 h
  obtain⟨r',h3,h4⟩:=Option.bind_eq_some_iff.1 h2
  have:r=y::r':=by simpa using h4.symm
  subst this
  obtain⟨g1,g2⟩:=Hb2 h3
  refine⟨by simp[g1],fun j z hz=>?_⟩
  cases j with
  | zero=>simp at hz;subst hz;exact⟨x,rfl,h1⟩
  | succ j=>simpa using g2 j z (by simpa using hz)
section
variable {D:Type} {enc:TypeId×Value→D} {P:Program}
theorem Nb9 {T : TypeId → Prop} (K : Kids P T) (hsz : ∀ {t e : TypeId}, T t → P.underlying t = some (.slice e) → 0 < P.cellsOf e) {w w' : World} {sp : Nat → Bool} (hs : Dc5 w w') :
  ∀ {ts:List TypeId} {vs:List Value} {ds:List (DataW D)} {ps:List MemPlace},(∀ t∈ts,T t)→DataW.TrodAll enc P w 0 (fun _=>true) true ts vs ds ps→(∀ p∈ps,p.block < w.heap.size)→(∀ p∈ps,sp p.block=true)→DataW.TrodAll enc P w' 0 sp true ts vs ds ps
 | [],[],[],_,_,h,_,_=>h
 | t::ts,v::vs,d::ds,ps,ht,h,hlt,hsp=>by
  obtain⟨p,q,⟨fuel,h1⟩,h2,rfl⟩:=h
  refine⟨p,q,⟨fuel,?_⟩,Nb9 K hsz hs (fun t h=>ht t (by simp[h])) h2 (fun x hx=>hlt x (by simp[hx])) (fun x hx=>hsp x (by simp[hx])),rfl⟩
  exact DataW.trod_stays K hsz (fun h=>by cases h) (ht t (by simp)) h1 (fun x hx=>hs.same x (hlt x (by simp at hx ⊢;exact .inl hx))) (fun x hx=>hsp x (by simp at hx ⊢;exact .inl hx))
 | [],_::_,_,_,_,h,_,_=>h.elim
 | [],[],_::_,_,_,h,_,_=>h.elim
 | _::_,[],_,_,_,h,_,_=>h.elim
 | _::_,_::_,[],_,_,h,_,_=>h.elim
theorem Sd6 {T : TypeId → Prop} (K : Kids P T) (hsz : ∀ {t e : TypeId}, T t → P.underlying t = some (.slice e) → 0 < P.cellsOf e) {f : Func} {s : ChangeSpec} {apart fresh handsOn again : Bool} {W W' : World} {args : Array Value} {ds gs : List (DataW D)} {before : List MemPlace} {tb : TypeId}
  (hT:∀ t∈f.params.toList,T t) (hW:DataW.Whole enc P f.params.toList s.vars apart W args.toList ds gs before) (hv:s.vars=[]) (hr:f.resultTypes=#[tb]) (hb:P.underlying tb=some .bool)
  (h1:(s.fn D ds).results=[.lit (.bool true)]) (h2:(s.fn D ds).args=ds) (h3:(s.fn D ds).vars=[]) (hs:Dc5 W W') :
  s.post enc P f apart fresh handsOn again W args (.bool true) W':=by
 have hlt:=hW.lt
 obtain⟨pa,pv,hA,hV,hps,hz,hn⟩:=id hW
 rw[hv] at hV
 have hpv:gs=[]∧pv=[]:=by
  cases gs with
  | nil=>exact⟨rfl,hV⟩
  | cons=>exact hV.elim
 obtain⟨rfl,rfl⟩:=hpv
 rw[← List.append_nil ds] at h1 h3
 have h2:(s.fn D (ds++[])).args=ds:=by rw[List.append_nil];exact h2
 have hpa:before=pa:=by rw[hps];simp
 subst hpa
 have hagain:∀ sp:Nat→Bool,(∀ p∈before,sp p.block=true)→DataW.TrodAll enc P W' 0 sp true f.params.toList args.toList ds before:=fun sp h=>Nb9 K hsz hs hT hA hlt h
 have hres:∀ (b:Nat) (sp:Nat→Bool) (hd:Bool),DataW.TrodAll enc P W' b sp hd f.resultTypes.toList ((Value.bool true).resultList f.resultTypes.size) [.lit (.bool true)] []:=fun b sp hd=>by
  rw[hr]
  exact⟨[],[],⟨1,by simp[DataW.trod,hb,Value.cells,Value.resultList]⟩,rfl,rfl⟩
 have hvars:∀ sp:Nat→Bool,DataW.TrodVars enc P W' sp s.vars ([]:List (DataW D)) []:=fun sp=>by rw[hv];exact rfl
 have hok:∀ (j:Nat) (t:TypeId) (r:Value),f.resultTypes[j]?=some t→((Value.bool true).resultList f.resultTypes.size)[j]?=some r→Value.okWide P W' .any 0 t r:=by
  rw[hr]
  intro j t r h4 h5
  cases j with
  | zero =>
   simp at h4
   subst h4
   have:r=.bool true:=by simpa [Value.resultList] using h5.symm
   subst this
   exact okWide_bool_mk hb _
  | succ j=>simp at h4
 have hag:DataW.TrodAll enc P W' 0 (fun _=>true) true (f.resultTypes.toList++f.params.toList) ((Value.bool true).resultList f.resultTypes.size++args.toList) (.lit (.bool true)::ds) before:=by
  have:=hagain (fun _=>true) (fun _ _=>rfl)
  rw[hr]
  exact⟨[],before,⟨1,by simp[DataW.trod,hb,Value.cells,Value.resultList]⟩,this,rfl⟩
 refine⟨ds,[],before,[],before,[],hW,?_,?_,?_,hs.kept _,fun _=>?_⟩
 ·rw[h1];exact hres _ _ _
 ·rw[h2];exact hagain _ fun p hp=>by simpa using hlt p hp
 ·rw[h3];exact hvars _
 ·refine⟨hok,.lit (.bool true)::ds,[],before,⟨before,[],hag,hvars _,by simp,?_,?_⟩,?_⟩
  ·intro b off hp
   rw[hs.frozen b off (hlt _ hp)]
   exact hz b off (by simpa using hp)
  ·intro ha;simpa using hn ha
  ·intro p hp _;exact hp
variable {w:World} {base:Nat} {spare:Nat→Bool} {held:Bool}
def od0 (w:World):Fz:=fun b o=>(w.cell? ⟨b,o,none⟩).isSome
theorem ne9 {fuel : Nat} {t : TypeId} {k : IntKind} {cs : List Value} {x : DataW D × List MemPlace} (ht : P.underlying t = some (.int k)) (h : DataW.trod enc P w base spare held fuel t cs = some x) :
  ∃ n,cs=[.int k n]∧(Lit.int k n).wf=true∧x.1=.lit (.int k n):=by
 cases fuel with
 | zero=>cases h
 | succ fuel =>
  match cs,h with
  | [],h=>simp[DataW.trod,ht] at h
  | [v],h =>
   cases v with
   | int k' n =>
    simp only[DataW.trod,ht] at h
    split at h
    ·rename_i hk
     obtain⟨rfl,hw⟩:=hk
     injection h with h;subst h
     exact⟨n,rfl,hw,rfl⟩
    ·cases h
   | _=>simp[DataW.trod,ht] at h
  | a::b::r,h=>simp[DataW.trod,ht] at h
theorem ce3 {fuel : Nat} {t : TypeId} {cs : List Value} {x : DataW D × List MemPlace} (ht : P.underlying t = some .bool) (h : DataW.trod enc P w base spare held fuel t cs = some x) :
  ∃ n,cs=[.bool n]∧x.1=.lit (.bool n):=by
 cases fuel with
 | zero=>cases h
 | succ fuel =>
  match cs,h with
  | [],h=>simp[DataW.trod,ht] at h
  | [v],h =>
   cases v with
   | bool n =>
    simp only[DataW.trod,ht] at h
    injection h with h;subst h
    exact⟨n,rfl,rfl⟩
   | _=>simp[DataW.trod,ht] at h
  | a::b::r,h=>simp[DataW.trod,ht] at h
theorem Sd7 {fuel : Nat} {t e : TypeId} {n : Nat} {cs : List Value} {x : DataW D × List MemPlace} (ht : P.underlying t = some (.array n e)) (h : DataW.trod enc P w base spare held fuel t cs = some x) :
  cs.length=P.cellsOf t∧∃ (fuel':Nat) (xs:List (DataW D×List MemPlace)),xs.length=n∧x.1=.agg (xs.map (·.1))∧∀ (j:Nat) y,xs[j]?=some y→DataW.trod enc P w base spare held fuel' e ((cs.drop (j*P.cellsOf e)).take (P.cellsOf e))=some y:=by
 cases fuel with
 | zero=>cases h
 | succ fuel =>
  unfold DataW.trod at h
  rw[ht] at h
  simp only at h
  split at h
  ·rename_i hl
   obtain⟨xs,h1,h2⟩:=Option.map_eq_some_iff.1 h
   have hx:=Hb2 h1
   exact⟨hl,fuel,xs,by simpa using hx.1,by rw[← h2],fun j y hy=>by
    obtain⟨a,ha,hb⟩:=hx.2 j y hy
    have:j < n:=by
     have:=(List.getElem?_eq_some_iff.1 hy).1
     rw[hx.1] at this;simpa using this
    rw[List.getElem?_range this] at ha
    injection ha with ha
    subst ha
    exact hb⟩
  ·cases h
theorem Hd0 {fuel : Nat} {t : TypeId} {fs : Array Field} {cs : List Value} {x : DataW D × List MemPlace} (ht : P.underlying t = some (.struct fs)) (h : DataW.trod enc P w base spare held fuel t cs = some x) :
  cs.length=P.cellsOf t∧∃ (fuel':Nat) (xs:List (DataW D×List MemPlace)),xs.length=fs.size∧x.1=.agg (xs.map (·.1))∧∀ (j:Nat) f,fs[j]?=some f→∃ y,xs[j]?=some y∧DataW.trod enc P w base spare held fuel' f.type ((cs.drop f.offset).take (P.cellsOf f.type))=some y:=by
 cases fuel with
 | zero=>cases h
 | succ fuel =>
  unfold DataW.trod at h
  rw[ht] at h
  simp only at h
  split at h
  ·rename_i hl
   obtain⟨xs,h1,h2⟩:=Option.map_eq_some_iff.1 h
   have hx:=Hb2 h1
   refine⟨hl,fuel,xs,by simpa using hx.1,by rw[← h2],fun j f hf=>?_⟩
   have hj:j < xs.length:=by
    rw[hx.1];simpa using (Array.getElem?_eq_some_iff.1 hf).1
   obtain⟨a,ha,hb⟩:=hx.2 j _ (List.getElem?_eq_getElem hj)
   have:a=f:=by
    have:fs.toList[j]?=some f:=by simpa using hf
    exact Option.some.inj (ha.symm.trans this)
   subst this
   exact⟨_,List.getElem?_eq_getElem hj,hb⟩
  ·cases h
theorem Sd8 {fuel : Nat} {t e : TypeId} {cs : List Value} {x : DataW D × List MemPlace} (ht : P.underlying t = some (.slice e)) (h : DataW.trod enc P w base spare held fuel t cs = some x) :
  cs=[.slice none 0 0]∨∃ (a:Addr) (n cap fuel':Nat),cs=[.slice (some a) n cap]∧n≤cap∧cap≤maxLen∧∀ j,j < n→∃ row y,w.cells? base (a.add (j*P.cellsOf e)) (P.cellsOf e)=some row∧DataW.trod enc P w base spare held fuel' e row=some y:=by
 cases fuel with
 | zero=>cases h
 | succ fuel =>
  match cs,h with
  | [],h=>simp[DataW.trod,ht] at h
  | [v],h =>
   cases v with
   | slice a len cap =>
    cases a with
    | none =>
     simp only[DataW.trod,ht] at h
     split at h<;>first | (rename_i e1;cases e1;done) | skip
     all_goals first | exact .inl rfl | (simp_all;done) | skip
    | some a =>
     refine .inr ?_
     simp only[DataW.trod,ht] at h
     split at h
     ·rename_i hc
      obtain⟨elems,h1,h2⟩:=Option.bind_eq_some_iff.1 h
      have hx:=Hb2 h1
      refine⟨a,len,cap,fuel,rfl,hc.2.1,hc.2.2,fun j hj=>?_⟩
      have hj':j < elems.length:=by rw[hx.1];simpa using hj
      obtain⟨i,hi,hb⟩:=hx.2 j _ (List.getElem?_eq_getElem hj')
      rw[List.getElem?_range hj] at hi
      injection hi with hi
      subst hi
      obtain⟨row,r1,r2⟩:=Option.bind_eq_some_iff.1 hb
      exact⟨row,_,r1,r2⟩
     ·cases h
   | _=>simp[DataW.trod,ht] at h
  | a::b::r,h=>simp[DataW.trod,ht] at h
theorem Ad8:∀ (d:Nat) (t:TypeId) (l:List (Nat×CK)),V5 P d t=some l→∀ (fuel:Nat) (cs:List Value) (x:DataW D×List MemPlace),DataW.trod enc P w base spare held fuel t cs=some x→∀ p∈l,va8 cs.toArray p
 | 0,_,_,h,_,_,_,_=>by cases h
 | d+1,t,l,h,fuel,cs,x,hx=>by
  have hpart:∀ {off n:Nat} {e:TypeId} {l':List (Nat×CK)} {fuel':Nat} {y:DataW D×List MemPlace},Ab3 off n (V5 P d e)=some l'→DataW.trod enc P w base spare held fuel' e ((cs.drop off).take n)=some y→∀ p∈l',va8 cs.toArray p:=fun {off n e l' fuel' y} h1 h2 p hp=>by
   obtain⟨l2,g1,g2,rfl⟩:=Da5 h1
   obtain⟨q,hq,rfl⟩:=List.mem_map.1 hp
   have:=Ad8 d e l2 g1 fuel' _ y h2 q hq
   have hlt:=g2 q hq
   unfold va8 at this ⊢
   simp only[List.getElem?_toArray,List.getElem?_take,hlt,if_true,List.getElem?_drop] at this ⊢
   exact this
  have hcat:∀ {α:Type} (f:α→Option (List (Nat×CK))) (xs:List α) (l:List (Nat×CK)),ha0 (xs.map f)=some l→∀ p∈l,∃ a∈xs,∃ l',f a=some l'∧p∈l':=fun {α} f xs=>by
   induction xs with
   | nil=>intro l h;simp only[List.map_nil,ha0] at h;injection h with h;subst h;simp
   | cons a xs ih =>
    intro l h p hp
    simp only[List.map_cons,ha0] at h
    cases h1:f a with
    | none=>simp[h1] at h
    | some l1 =>
    cases h2:ha0 (xs.map f) with
    | none=>simp[h1,h2] at h
    | some l2 =>
    simp only[h1,h2] at h
    injection h with h;subst h
    rcases List.mem_append.1 hp with hp | hp
    ·exact⟨a,by simp,l1,h1,hp⟩
    ·obtain⟨b,hb,r⟩:=ih l2 h2 p hp
     exact⟨b,by simp[hb],r⟩
  unfold V5 at h
  cases hu:P.underlying t with
  | none=>simp[hu] at h
  | some u =>
  cases u with
  | int k =>
   simp only[hu] at h;injection h with h;subst h
   obtain⟨n,rfl,_,_⟩:=ne9 hu hx
   intro p hp;simp at hp;subst hp;exact⟨n,rfl⟩
  | bool =>
   simp only[hu] at h;injection h with h;subst h
   obtain⟨n,rfl,_⟩:=ce3 hu hx
   intro p hp;simp at hp;subst hp;exact⟨n,rfl⟩
  | struct fs =>
   simp only[hu] at h
   split at h
   ·cases h
   obtain⟨_,fuel',xs,_,_,hxs⟩:=Hd0 hu hx
   intro p hp
   obtain⟨f,hf,l',h1,h2⟩:=hcat _ _ _ h p hp
   split at h1
   ·cases h1
   obtain⟨j,hj⟩:=List.getElem?_of_mem hf
   obtain⟨y,_,hy⟩:=hxs j f (by simpa using hj)
   have hc:P.cellsOf f.type=szT P f.type:=by
    unfold Program.cellsOf szT
    cases P.info? f.type<;>rfl
   rw[hc] at hy
   exact hpart h1 hy p h2
  | array n e =>
   simp only[hu] at h
   split at h
   case isFalse=>cases h
   obtain⟨_,fuel',xs,hn,_,hxs⟩:=Sd7 hu hx
   intro p hp
   obtain⟨j,hj,l',h1,h2⟩:=hcat _ _ _ h p hp
   have hj':j < xs.length:=by rw[hn];simpa using hj
   have hy:=hxs j _ (List.getElem?_eq_getElem hj')
   have hc:P.cellsOf e=szT P e:=by
    unfold Program.cellsOf szT
    cases P.info? e<;>rfl
   rw[hc] at hy
   exact hpart h1 hy p h2
  | _=>simp[hu] at h
def la2 (k:IntKind) (es:Nat) (g:Nat→Int):List b7:=(List.range es).map fun c=>.v (.int k (g c))
def sa0 (k:IntKind) (es:Nat):List (Nat×CK):=(List.range es).map fun c=>(c,.int k)
theorem Ad9 {d : Nat} {t : TypeId} {k : IntKind} {es : Nat} (hf : V5 P d t = some (sa0 k es)) {fuel : Nat} {cs : List Value} {x : DataW D × List MemPlace} (hx : DataW.trod enc P w base spare held fuel t cs = some x) (hl : cs.length = es) :
  ∃ g:Nat→Int,∀ c,c < es→cs[c]?=some (.int k (g c)):=by
 have h:=Ad8 d t _ hf fuel cs x hx
 have h':∀ c,∃ n:Int,c < es→cs[c]?=some (.int k n):=fun c=>by
  by_cases hc:c < es
  ·have:=h (c,.int k) (List.mem_map.2 ⟨c,by simpa using hc,rfl⟩)
   obtain⟨n,hn⟩:=this
   exact⟨n,fun _=>by simpa using hn⟩
  ·exact⟨0,fun h=>absurd h hc⟩
 exact⟨fun c=>Classical.choose (h' c),fun c hc=>Classical.choose_spec (h' c) hc⟩
theorem Sd9 {F:Fz} {w:World} (k:IntKind) (n:Int):V9 F w (.v (.int k n)) (.int k n):=.v _ rfl
theorem Dc6 {k:IntKind} {es:Nat} {g:Nat→Int} {c:Nat} {x:b7} (h:(la2 k es g)[c]?=some x):c < es∧x=.v (.int k (g c)):=by
 unfold la2 at h
 obtain⟨h1,h2⟩:=Fa7 h
 exact⟨h1,h2.symm⟩
theorem Kc2 {t e : TypeId} {k : IntKind} {es d : Nat} (ht : P.underlying t = some (.slice e)) (hf : V5 P d e = some (sa0 k es)) (hes : P.cellsOf e = es) (h0 : 0 < es) {fuel : Nat} {cs : List Value} {x : DataW D × List MemPlace} (hx : DataW.trod enc P w 0 spare held fuel t cs = some x) :
  ∃ (v:Value) (n:Nat) (g:Nat→Nat→Int),cs=[v]∧n≤maxLen∧V9 (od0 w) w (.tree es n fun j=>la2 k es (g j)) v:=by
 rcases Sd8 ht hx with rfl | ⟨a,n,cap,fuel',rfl,hn,hc,hel⟩
 ·exact⟨_,0,fun _ _=>0,rfl,Nat.zero_le _,.nil _ _⟩
 ·rw[hes] at hel
  have hcell:∀ j,j < n→∃ g:Nat→Int,∀ c,c < es→w.cell? ((a.add (j*es)).add c)=some (.int k (g c)):=fun j hj=>by
   obtain⟨row,y,h1,h2⟩:=hel j hj
   unfold World.cells? at h1
   split at h1
   ·obtain⟨l1,l2⟩:=Hb2 h1
    have hl:row.length=es:=by simpa using l1
    obtain⟨g,hg⟩:=Ad9 hf h2 hl
    refine⟨g,fun c hc=>?_⟩
    obtain⟨i,hi,hi2⟩:=l2 c _ (hg c hc)
    rw[List.getElem?_range hc] at hi
    injection hi with hi
    subst hi
    exact hi2
   ·cases h1
  have hg:∀ j,∃ g:Nat→Int,j < n→∀ c,c < es→w.cell? ((a.add (j*es)).add c)=some (.int k (g c)):=fun j=>by
   by_cases hj:j < n
   ·obtain⟨g,hg⟩:=hcell j hj
    exact⟨g,fun _=>hg⟩
   ·exact⟨fun _=>0,fun h=>absurd h hj⟩
  obtain⟨g,hg⟩:=Classical.axiomOfChoice hg
  have hspot:0 < n→a.spot=none:=fun hn=>by
   have:=hg 0 hn 0 h0
   simpa [Addr.add] using World.cell?_spot this
  have hw:∀ j c,j < n→c < es→w.cell? ⟨a.block,a.off+(j*es+c),none⟩=some (.int k (g j c)):=fun j c hj hc=>by
   have:=hg j hj c hc
   rw[T7 (hspot (by omega)),T7 rfl] at this
   simpa [Nat.add_assoc] using this
  refine⟨_,n,g,rfl,Nat.le_trans hn hc,.tree es n _ a cap (fun j c=>.int k (g j c)) hspot hn (fun i hi=>by simp[la2]) (fun i c hi hc=>?_) hw fun i c hi hc=>?_⟩
  ·unfold od0
   rw[hw i c hi hc]
   rfl
  ·have:=(Dc6 (List.getElem?_eq_getElem hc)).2
   rw[this]
   exact Sd9 _ _
theorem Hd1 (w:World):s6 (fun k=>w.heap.size≤k) (fun _=>⟨0,0,0⟩) [] (od0 w) w :=
 ⟨fun id b h=>by simp at h,fun id id' b b' h=>by simp at h,fun _ _ h=>h,fun _ h=>h⟩
theorem Hd2 {G : Nat → List Value} {f : FuncId} {S : Sum} (hS : g7 P G f S) {aargs : List b7} {args : List Value} (hrun : ∃ out, (S aargs []).run = some (b true, out)) (hl : aargs.length = args.length)
  (ha:∀ (i:Nat) x x',aargs[i]?=some x→args[i]?=some x'→Y1 (fun _=>⟨0,0,0⟩) [] (od0 w) w x x') (hG:∀ g (c:Nat) x,(G g)[c]?=some x→x.oneCell'=true∧w.cell? ⟨g,c,none⟩=some x) :
  Calls P f args.toArray w fun e w'=>e=.returned (.bool true)∧Dc5 w w':=by
 obtain⟨out,hrun⟩:=hrun
 obtain⟨_,hc⟩:=hS aargs [] (b true) out hrun (fun k=>w.heap.size≤k) (fun _=>⟨0,0,0⟩) (od0 w) w args (Hd1 w) hl (fun i x x' h1 h2=>.val (ha i x x' h1 h2)) (fun g c x hx=>by
  obtain⟨h1,h2⟩:=hG g c x hx
  exact⟨h1,by unfold od0;rw[h2];rfl,h2⟩)
 refine hc.mono fun e w' ⟨r',he,ρ',F',hA,hH,hW⟩=>?_
 have:=aa2 hW
 subst this
 exact⟨he,hA.ext.os,hA.ext.output,hA.ext.size,fun k hk=>hA.ext.block k hk (by omega)⟩
theorem ce4 {ρ : Rho} {H : List b8} {F : Fz} {t : TypeId} {k : IntKind} {es d : Nat} {v : Value} {dd : DataW D} {pp : List MemPlace} {bs : Nat} {r : Reach} (hag : agT P t = true) (hf : V5 P d t = some (sa0 k es)) (hes : P.cellsOf t = es)
  (hok:Value.okWide P w r bs t v) (h:DataW.Trod enc P w base spare held t v dd pp):∃ g:Nat→Int,Y1 ρ H F w (.agg (la2 k es g)) v:=by
 have hv:∃ cs:Array Value,v=.agg cs∧cs.size=P.cellsOf t:=by
  unfold agT at hag
  unfold Value.okWide at hok
  split at hag
  ·rename_i fs hu;rw[hu] at hok;obtain⟨cs,h1,h2,_⟩:=hok;exact⟨cs,h1,h2⟩
  ·rename_i n e hu;rw[hu] at hok;obtain⟨cs,h1,h2,_⟩:=hok;exact⟨cs,h1,h2⟩
  ·cases hag
 obtain⟨cs,rfl,hsz⟩:=hv
 obtain⟨fuel,hx⟩:=h
 have hx:DataW.trod enc P w base spare held fuel t cs.toList=some (dd,pp):=hx
 obtain⟨g,hg⟩:=Ad9 hf hx (by simpa [hes] using hsz)
 refine⟨g,.agg _ _ (by simp[la2,hsz,hes]) fun c x x' h1 h2=>?_⟩
 obtain⟨hc,rfl⟩:=Dc6 h1
 have:=hg c hc
 have h3:some x'=some (.int k (g c)):=by rw[← h2];simpa using this
 injection h3 with h3
 subst h3
 exact .v _
theorem Qc4 {ρ : Rho} {H : List b8} {t e : TypeId} {k : IntKind} {es d : Nat} {v : Value} {dd : DataW D} {pp : List MemPlace} {bs : Nat} {r : Reach} (ht : P.underlying t = some (.slice e)) (hf : V5 P d e = some (sa0 k es)) (hes : P.cellsOf e = es) (h0 : 0 < es)
  (hok:Value.okWide P w r bs t v) (h:DataW.Trod enc P w 0 spare held t v dd pp):∃ (n:Nat) (g:Nat→Nat→Int),n≤maxLen∧Y1 ρ H (od0 w) w (.tree es n fun j=>la2 k es (g j)) v:=by
 obtain⟨fuel,hx⟩:=h
 obtain⟨v',n,g,h1,h2,h3⟩:=Kc2 ht hf hes h0 hx
 have hv:v.cells=#[v]:=by
  unfold Value.okWide at hok
  rw[ht] at hok
  cases v with
  | agg cs=>exfalso;simp[Cell.okWide,Cell.ok,ht] at hok
  | _=>rfl
 rw[hv] at h1
 have:v=v':=by simpa using h1
 subst this
 exact⟨n,g,h2,.cell (.mem h3)⟩
end
end Go.Ev
namespace Go.Ev.L
open Go Go.Ev
theorem od1 {α : Type} (t : Ty α) (n : Nat) (g : Nat → Nat → Int) (f : (Nat → Int) → α) (h : ∀ j, la2 .i64 t.es (g j) = t.row (f (g j))) :
  ∃ l,(V2 t).dec (.tree t.es n fun j=>la2 .i64 t.es (g j))=some l∧(V2 t).grd (.tree t.es n fun j=>la2 .i64 t.es (g j))=true:=by
 refine⟨lsL t n fun j=>la2 .i64 t.es (g j),?_,sb8 t (f:=fun k=>f (g k)) fun k _=>h k⟩
 show Bool.rec (motive:=fun _=>Option (List α)) none (some (lsL t n fun j=>la2 .i64 t.es (g j))) (Nat.beq t.es t.es)=_
 rw[Nat.beq_refl]
end Go.Ev.L
namespace Go.Ev.Ce
open Go Go.Ev Go.Ev.L Go.Proofs
theorem ce5 (n0 : Nat) (g0 : Nat → Nat → Int) (g1 : Nat → Int) (n2 : Nat) (g2 : Nat → Nat → Int) :
  (Ka4 [.tree 1 n0 fun j=>la2 .i64 1 (g0 j),.agg (la2 .i64 6 g1),.tree 4 n2 fun j=>la2 .i64 4 (g2 j)] []).run=some (b true,[]):=by
 obtain⟨l0,h1,h2⟩:=od1 tI n0 g0 (fun g=>g 0) fun _=>rfl
 obtain⟨l2,h3,h4⟩:=od1 tP n2 g2 (fun g=>⟨⟨g 0,g 1,g 2⟩,g 3⟩) fun _=>rfl
 have h5:(R2 tQ).dec (.agg (la2 .i64 6 g1))=some ⟨⟨g1 0,g1 1,g1 2⟩,⟨g1 3,g1 4,g1 5⟩⟩:=rfl
 have h1:(V2 tI).dec (.tree 1 n0 fun j=>la2 .i64 1 (g0 j))=some l0:=h1
 have h2:(V2 tI).grd (.tree 1 n0 fun j=>la2 .i64 1 (g0 j))=true:=h2
 have h3:(V2 tP).dec (.tree 4 n2 fun j=>la2 .i64 4 (g2 j))=some l2:=h3
 have h4:(V2 tP).grd (.tree 4 n2 fun j=>la2 .i64 4 (g2 j))=true:=h4
 unfold Ka4 mc0
 simp only[h1,h2,h3,h4,h5]
 show (DT.guard true (DT.guard true (DT.guard true (DT.guard (ra6 l0 ⟨⟨g1 0,g1 1,g1 2⟩,⟨g1 3,g1 4,g1 5⟩⟩ l2) (.ret ((one r1B).enc (ra5 l0 ⟨⟨g1 0,g1 1,g1 2⟩,⟨g1 3,g1 4,g1 5⟩⟩ l2),[]))))) ).run=_
 rw[ce2,ce1]
 rfl
end Go.Ev.Ce
