/- Lemmas on the way: VVi. -/
import Derived.Sort.MapsRangeIn
import Derived.Test.YtgdaahffmcfhpaaGreatDoorO28
set_option maxRecDepth 100000
set_option maxHeartbeats 8000000
namespace Go.Proofs.YtgdaahffmcfhpaaGreatDoor
open aA
open Tryz
section
open Go.RowKit Go.Shelf
attribute [local go_sem] Oper.semAt_some dR dO dS dP
theorem iq.of_walks {w w':World} {b r:Nat} {es rest:List Nd} (h:iq w b r es rest) (k:KeepsWalks w w'):iq w' b r es rest:=by
 obtain ⟨l,c,seen,c0,h1,h2,h3,h4,h5,h6,h7⟩:=h;exact ⟨l,c,seen,c0,h1,k.same b _ h2 rfl,h3,h4,h5,k.same r _ h6 rfl,h7⟩
theorem iq.iter_walk {w:World} {b r:Nat} {es rest:List Nd} (h:iq w b r es rest):∃o:Obj,w.heap[r]? =some o/\o.isWalk=true:=by
 obtain ⟨l,c,seen,c0,h1,h2,h3,h4,h5,h6,h7⟩:=h;exact ⟨_,h6,rfl⟩
section
variable {F:Fence} {n:Nat} (w:World) {ops:Array Oper} {rest:List Oper} {o:Oper} {a:Act} {Q:Exit->Act->World->Prop}
theorem vF (hg:o.guard=none) (m:Operand) (hop:o.op=Op.range 63 m) (b:Nat) (es:List Nd) (hm:a.eval m=.map (some b)) (hown:gd w b es)
  (hK:∀w',iq w' b w es es->Below w w w'->w'.heap.size=w.heap.size+1->wpListIn F n prog ops Q rest (a.put o.dst (.pointer (some w))) w'):
  wpListIn F n prog ops Q (o :: rest) a w:=by
 refine wpListIn_plain hg λK' BC=>?_
 obtain ⟨w',hrun,r1,r2,r3⟩:=hown.range;unfold Oper.wpIn;refine ⟨?_,?_⟩
 ·simp [Oper.about,hop]
 ·rw [Oper.semAt_plain F _ _ (by rw [hop];intro c yq;cases yq)]
  simp [execOp,hop,hm,hrun,Result.andThen];exact BC _ _ (hK w' r1 r2 r3)
theorem xZ (hg:o.guard=none) (it:Operand) (hop:o.op=Op.next it false) (b r:Nat) (es left:List Nd) (hit:a.eval it=.pointer (some r)) (h:iq w b r es left)
  (hDone:left=[]->wpListIn F n prog ops Q rest (a.put o.dst (.tuple #[false])) w)
  (hMore:∀x left' w',left.Perm (x :: left')->iq w' b r es left'->w.grownBy w' (some r)->w'.heap.size=w.heap.size->(Instr.entry (.pointer (some r))).run prog w'=.ok (.tuple #[sv x.id,nv x]) w'->wpListIn F n prog ops Q rest (a.put o.dst (.tuple #[true,sv x.id,nv x])) w'):
  wpListIn F n prog ops Q (o :: rest) a w:=by
 refine wpListIn_plain hg λK' BC=>?_
 unfold Oper.wpIn;refine ⟨by simp [Oper.about,hop],?_⟩;rw [Oper.semAt_plain F _ _ (by rw [hop];intro c yq;cases yq)];rcases h.next (P:=prog) o.type with ⟨h0,hrun⟩| ⟨x,left',w',hp,hrun,FZ,qK,hsz,ME⟩
 ·simp [execOp,hop,hit,hrun,Result.andThen]
  exact BC _ _ (hDone h0)
 ·simp [execOp,hop,hit,hrun,Result.andThen]
  exact BC _ _ (hMore x left' w' hp FZ qK hsz ME)
end
theorem LA (F:Fence) (n:Nat) (FJ:F.fn 94) (hro:F.round=none) (hn:1<=n) (l Bm b:Nat) (es:List Nd) (J Jx:List Nd->World->Prop)
  (hY:∀pre x W,J pre W->pre.length < es.length->YieldAt F (n - 1) prog l #[nv x] W λe W'=>
   (e=.returned true/\J (pre++[x]) W'/\KeepsWalks W W')\/(e=.returned false/\Jx (pre++[x]) W'))
  (W:World) (hJ:AbidesFrom W.heap.size J) (hm:W.cell? Bm=some (.map (some b))) (hown:gd W b es) (h0:J [] W):
  CallsIn F n prog 94 #[.func (.yield l) #[] #[],Qp Bm] W λe W'=>(∃v,e=.returned v)/\
   ((∃ys,ys.Perm es/\J ys W')\/(∃pre:List Nd,True/\Jx pre W')):=by
 refine callsIn_of_wp func94 rfl FJ ?_ hro;simp only [ntmps94,bW,aY,bE,Nat.reduceAdd,Nat.reduceSub,Array.replicate_succ,Array.replicate_zero,List.push_toArray,List.append_toArray,ak,bC];gi_wp2_with (first
  |(gi_at_range;refine vF _ rfl _ rfl b es rfl hown ?_;intro w0 YQ UZ hs0)
  |gi_in)
 go_frame;gi_loopw [4] (λ_ wr=>∃(left pre:List Nd),iq wr b W.heap.size es left/\(pre++left).Perm es/\J pre wr)
  (λ_ wr=>wr.rangeLeft b W.heap.size)
 case atStart=>exact ⟨es,[],YQ,List.Perm.refl _,hJ [] W w0 none h0 (fC UZ none) (λr e=>by cases e)⟩
 case round=>
  obtain ⟨left,pre,FZ,JX,Mm⟩:=hrel;gi_wp2_with (first
   |(gi_at_next;refine xZ _ rfl _ rfl b W.heap.size es left rfl FZ ?_ ?_)
   |gi_in)
  ·intro hl0
   subst hl0;gi_wp2;go_end0;rw [bG] at JX;exact ⟨⟨_,rfl⟩,.inl ⟨_,JX,Mm⟩⟩
  ·intro x left' w2 hp zl hg2 hs2 ME
   have oQ:J pre w2:=hJ _ wr w2 (some W.heap.size) Mm hg2 (λr e=>by cases e;exact ⟨aB _,FZ.iter_walk⟩);have QY:J pre (w2.alloc (.cells (nc x).toArray 38)):=hJ _ w2 _ none oQ (D2 (dz _ _) _) (λr e=>by cases e);have hpl:pre.length < es.length:=by
    have h1:=JX.length_eq;have h2:=hp.length_eq;simp at h1 h2;omega
   have QZ:=zl.alloc (.cells (nc x).toArray 38);have Qa:((pre++[x])++left').Perm es:=by
    rw [bx];exact (List.Perm.append_left pre hp.symm).trans JX
   obtain ⟨fn,tmps,assign,body,hy,hR⟩:=hY pre x (w2.alloc (.cells (nc x).toArray 38)) QY hpl;have hleft:left'.length < left.length:=by rw [hp.length_eq];simp
   have HL:=dL hleft;have HRg:=dL FZ;unfold nv at hy ME;unfold sv at ME;unfold nc at hy;have HR:=dL hR;have XQ:=dL QZ;clear hs2 oQ QY hR FZ zl QZ hpl hleft hp hg2 Mm;gi_wp2;refine HR.o.mono ?_;rintro e W3 (⟨rfl,QY,oD⟩| ⟨rfl,Qy⟩)
   ·have qB:=dL (XQ.o.of_walks oD)
    have QC:=dL QY;have MZ:=dL Qa;clear QY oD Qa;gi_wp2;go_roundw
    case rel=>exact ⟨left',pre++[x],qB.o,MZ.o,QC.o⟩
    case measure=>rw [qB.o.left,HRg.o.left];exact HL.o
   ·gi_wp2
    refine bodyPost_ret (results_none rfl _ _ _) rfl ?_;exact ⟨⟨_,rfl⟩,.inr ⟨_,trivial,Qy⟩⟩
theorem EJ (F:Fence) (n:Nat) (FJ:F.fn 94) (hro:F.round=none) (hn:1<=n) (Bm b:Nat) (es:List Nd) (w:World) (h1:Bm < w.heap.size) (hBm:w.cell? Bm=some (.map (some b))) (hown:gd w b es):
  SeqStopsK F n prog 94 #[Qp Bm] (λx:Nd=>#[nv x]) KeepsWalks (λys=>ys.Perm es) (λ_=>True) es.length w:=λl J Jx W hW hJ _ hY h0=>
 LA F n FJ hro hn l Bm b es J Jx hY W hJ ((hW.cell (p:=Bm) h1).trans hBm) (hown.below hW) h0
theorem LB (b:Nat) (w:World):
  Calls prog 42 #[.map (some b)] w λe w'=>e=.returned (.func (.func 94) #[] #[Qp w])/\w'=w.alloc (.cells #[.map (some b)] 63):=by
 go_enter func42,ntmps42;go_wp2_with fail;go_ret;exact ⟨rfl,rfl⟩
theorem GY (W:World) (t:TypeId) (x:Nd):∀(j:Nat) (u:Value),(nc x)[j]? =some u->(W.alloc (.cells (nc x).toArray t)).cell? ((Addr.mk W 0 none).add j)=some u:=by
 intro j u hu;have e:(Addr.mk W 0 none).add j= ⟨W.heap.size,j,none⟩:=by unfold Addr.add;split <;> simp_all
 rw [e,(Blk.new W t (nc x).toArray).cell,aO];exact hu
variable {W:World} {v:Value}
theorem Blk.toBox {B:Nat} {t:TypeId} (h:Blk W B t #[v]):Boxed W B t v:=h
theorem Sr {β:Type} (B:Nat) (t:TypeId) (f:β->Array Value):Go.Own (λs W=>Blk W B t (f s)):=λs X Y row hs hg hrow=>by
 refine hs.grown hg (λe=>?_);obtain ⟨o,ho,hc⟩:=hrow B e.symm;unfold Blk at hs;rw [hs] at ho;cases ho;cases hc
theorem xb {base:Nat} {e:TypeId} {size:Nat} {k:Nat} {xs:List Value} (h:W.ownsRow base e size v k xs):∀(j:Nat) (o:Obj),v.ownBlock=some j->W.heap[j]? =some o->o.isWalk=false:=by
 intro j o hj ho;rcases h.2 with ⟨rfl,_⟩| ⟨g,cap,cur,rfl,_,hg,_⟩
 ·cases hj
 ·cases hj
  rw [hg] at ho;cases ho;rfl
theorem C5 (F:Fence) (n:Nat) (h54:F.fn 151) (FJ:F.fn 94) (hro:F.round=none) (hn:3<=n) (Bs b:Nat) (es:List Nd) (w:World) (Ml:es.length<=1000000) (h1:Bs < w.heap.size) (FY:Boxed w Bs 63 (.map (some b))) (hmap:gd w b es):
  CallsIn F n prog 151 #[(),.func (.func 94) #[] #[.pointer (some ⟨Bs,0,none⟩)]] w λe w'=>∃v ys,e=.returned v/\ys.Perm es/\w'.ownsRow w 38 7 v ys.length (jU ys)/\Below w w w':=by
 have qX:1<=n:=by omega
 obtain ⟨i0,hi,hz0,hz1,hz2⟩:=info_parts qf;refine callsIn_of_wp_marks func151 rfl h54 ?_ hro;simp only [ntmps151,bW,aY,bE,Nat.reduceAdd,Nat.reduceSub,Array.replicate_succ,Array.replicate_zero,List.push_toArray,List.append_toArray,ak,bC];have bO:=Boxed.new w 33 (.slice none 0 0);have bS:=FY.alloc (.cells #[()] 33);have yS:=dH w (.cells #[()] 33);have hsz:(w.alloc (.cells #[()] 33)).heap.size=w.heap.size+1:=by simp
 obtain ⟨W0,Yh⟩:=dG (w.alloc (.cells #[()] 33));rw [<-Yh] at bO bS yS hsz;have hm0:=hmap.below yS;have HW:=dL Yh;clear Yh;gi_wp2;rw [<-HW.o];refine wpIn_rangeFunc_ownH hro qX (gf:=94) (lb:=#[.pointer (some Bs)]) rfl FJ (enters_of func94 (by kernel_rfl) rfl)
  (EJ F (n - 1) FJ hro (by omega) Bs b es W0 (by omega) bS.cell hm0) KeepsWalks.trans (λW l o o' hl h hc hw=>KeepsWalks.putObj _ h hw) (aC _ _) (λ_=>rfl)
  (λ(pre:List Nd) W=>(∃v,Boxed W w 33 v/\W.ownsRow w 38 7 v pre.length (jU pre)/\True)/\Below w w W/\W0.heap.size<=W.heap.size)
  (λ_ _ _=>False)
  (OwnFrom.and (Own.from (holdsRow_own w w 33 38 7 (λpre:List Nd=>pre.length) (λpre=>jU pre) (λ_ _=>True)) _) (OwnFrom.and (ownFrom_below (aB _) (by omega)) (λ_ _ _ _ h hg _=>aI h hg.size)))
  (λ_ _ _ _ _ hs _ _=>hs)
  ⟨⟨_,bO,World.ownsRow_nil _ _ _ _,trivial⟩,yS,aB _⟩
  (λx a' W=>∃Bx,w.heap.size < Bx/\Blk W Bx 38 (nc x).toArray/\a'={ tmps:=#[.slice none 0 0,.func (.func 94) #[] #[Qp Bs],.pointer (some w),undef,.slice none 0 0,.pointer (some ⟨Bx,0,none⟩),.func (.func 94) #[] #[Qp Bs],nv x,undef,undef,undef,undef,undef],defers:=[] })
  (λx a' _ X Y row hs hg hr=>by obtain ⟨Bx,h1,h2,h3⟩:=hs;exact ⟨Bx,h1,Sr Bx 38 (λ(_:Unit)=>(nc x).toArray) () X Y row h2 hg (λr e=>(hr r e).2),h3⟩)
  ?assign ?body ?done ?stop
 case assign=>
  rintro l pre x W K ⟨⟨v,hv,hrow,_⟩,gH,hge⟩ hK;unfold nv at hK ⊢;unfold nc at hK;gi_wp2;exact hK _ _ ((KeepsOthers.alloc _ _).from _) (KeepsWalks.alloc _ _) ⟨⟨v,hv.alloc _,hrow.alloc _,trivial⟩,gH.alloc gH.size _,by simp;omega⟩ ⟨W.heap.size,hv.lt,Blk.new _ _ _,rfl⟩
 case body=>
  rintro l pre x a' W hl ⟨r,hr⟩ ⟨⟨v,hv,hrow,_⟩,gH,hge⟩ ⟨Bx,hBx,bX,rfl⟩ hlt;have cB:=hv.cell;obtain ⟨c0,c1,c2,c3,c4,c5,c6⟩:=eW bX;have dY:=gH.size;have hcn:=GY W 38 x;have qX:=oU x;unfold nv;unfold nc at hcn qX;gi_wp2_with (gi_at_builtin;refine wpListIn_append_own _ rfl _ _ 33 rfl w.heap.size 38 i0 (.agg #[qn,qn,false,qn,qn,yj,yj]) 7 72 underlying33 hi hz0 hz1 hz2 rfl (by decide) _ _ _ rfl (hrow.alloc _) ⟨W.heap.size,0,none⟩ 1 1 (nc x) rfl rfl hcn qX (by unfold maxLen;omega) (by omega) (by simp;omega) ?_;intro v' w1 hown' hgrow _;obtain ⟨g',cap',rfl⟩:=ownsRow_succ hown';have hkw:=(KeepsWalks.alloc W _).trans (KeepsWalks.of_grownBy hgrow (xb (hrow.alloc _)));obtain ⟨CR,RI,hr2,hk2,dY⟩:=hv.appended (by decide) hrow gH.size (aB _) hown' hgrow;have hc1:=CR.cell;have Cp:=CR.frozen);exact ⟨hk2.from _,hkw.trans (KeepsWalks.setCell _ _ _),⟨_,RI,by rw [l9,aP];simpa [jU] using hr2,trivial⟩,gH.trans dY,aI hge hk2.size⟩
 case done=>
  rintro D ys W hD hys ⟨⟨v,hv,hrow,_⟩,hB,_⟩ hK;have hc:=hv.cell;gi_wp2;refine ⟨by simp,.inl ⟨_,_,rfl,run_takeDeferred hK,?_⟩⟩;exact ⟨_,results_tmp rfl _ _ _,v,ys,rfl,hys,ownsRow_putObj hrow (.deferred none) hK rfl,hB.trans (belowK_b (w:=w) (aB _) W D _ _ (by omega) hK rfl rfl)⟩
 case stop=>
  rintro D c pre W _ _ h _;exact h.elim
end
end Go.Proofs.YtgdaahffmcfhpaaGreatDoor
