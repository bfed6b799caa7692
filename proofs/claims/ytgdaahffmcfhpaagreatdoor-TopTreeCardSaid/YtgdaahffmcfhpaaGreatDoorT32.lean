/- Lemmas on the way: VVi. -/
import Derived.Sort.MapsRangeIn
import Derived.Test.YtgdaahffmcfhpaaGreatDoorT31
import Derived.Test.YtgdaahffmcfhpaaGreatDoorT00
set_option maxRecDepth 100000
set_option maxHeartbeats 8000000
namespace Go.Proofs.YtgdaahffmcfhpaaGreatDoor
open Tryz
section
open Go.RowKit Go.Shelf
attribute [local go_sem] Oper.semAt_some dO dL dQ dM
theorem jC.of_walks {w w':World} {b r:Nat} {es rest:List Nd} (h:jC w b r es rest) (k:KeepsWalks w w'):jC w' b r es rest:=by
 obtain ⟨l,c,seen,c0,h1,h2,h3,h4,h5,h6,h7⟩:=h;exact ⟨l,c,seen,c0,h1,k.same b _ h2 rfl,h3,h4,h5,k.same r _ h6 rfl,h7⟩
theorem jC.iter_walk {w:World} {b r:Nat} {es rest:List Nd} (h:jC w b r es rest):∃o:Obj,w.heap[r]? =some o/\o.isWalk=true:=by
 obtain ⟨l,c,seen,c0,h1,h2,h3,h4,h5,h6,h7⟩:=h;exact ⟨_,h6,rfl⟩
section
variable {F:Fence} {n:Nat} (w:World) {ops:Array Oper} {rest:List Oper} {o:Oper} {a:Act} {Q:Exit->Act->World->Prop}
theorem uD (hg:o.guard=none) (m:Operand) (hop:o.op=Op.range 63 m) (b:Nat) (es:List Nd) (hm:a.eval m=.map (some b)) (hown:gP w b es)
  (hK:∀w',jC w' b w.heap.size es es->Below w.heap.size w w'->w'.heap.size=w.heap.size+1->wpListIn F n prog ops Q rest (a.put o.dst (.pointer (some ⟨w.heap.size,0,none⟩))) w'):
  wpListIn F n prog ops Q (o :: rest) a w:=by
 refine wpListIn_plain hg fun K' zh=>?_
 obtain ⟨w',hrun,r1,r2,r3⟩:=hown.range;unfold Oper.wpIn;refine ⟨?_,?_⟩
 ·simp [Oper.about,hop]
 ·rw [Oper.semAt_plain F _ _ (by rw [hop];intro c BZ;cases BZ)]
  simp [execOp,hop,hm,hrun,Result.andThen];exact zh _ _ (hK w' r1 r2 r3)
theorem wG (hg:o.guard=none) (it:Operand) (hop:o.op=Op.next it false) (b r:Nat) (es left:List Nd) (hit:a.eval it=.pointer (some ⟨r,0,none⟩)) (h:jC w b r es left)
  (hDone:left=[]->wpListIn F n prog ops Q rest (a.put o.dst (.tuple #[.bool false])) w)
  (hMore:∀x left' w',left.Perm (x :: left')->jC w' b r es left'->w.grownBy w' (some r)->w'.heap.size=w.heap.size->(Instr.entry (.pointer (some ⟨r,0,none⟩))).run prog w'=.ok (.tuple #[sv x.id,nv x]) w'->wpListIn F n prog ops Q rest (a.put o.dst (.tuple #[.bool true,sv x.id,nv x])) w'):
  wpListIn F n prog ops Q (o :: rest) a w:=by
 refine wpListIn_plain hg fun K' zh=>?_
 unfold Oper.wpIn;refine ⟨by simp [Oper.about,hop],?_⟩;rw [Oper.semAt_plain F _ _ (by rw [hop];intro c BZ;cases BZ)];rcases h.next (P:=prog) o.type with ⟨h0,hrun⟩| ⟨x,left',w',hp,hrun,tg,oy,hsz,Oh⟩
 ·simp [execOp,hop,hit,hrun,Result.andThen]
  exact zh _ _ (hDone h0)
 ·simp [execOp,hop,hit,hrun,Result.andThen]
  exact zh _ _ (hMore x left' w' hp tg oy hsz Oh)
end
theorem Jc (F:Fence) (n:Nat) (sr:F.fn 94) (hro:F.round=none) (hn:1<=n) (l Bm b:Nat) (es:List Nd) (J Jx:List Nd->World->Prop)
  (hY:∀pre x W,J pre W->pre.length < es.length->YieldAt F (n - 1) prog l #[nv x] W fun e W'=>
   (e=.returned (.bool true)/\J (pre++[x]) W'/\KeepsWalks W W')\/(e=.returned (.bool false)/\Jx (pre++[x]) W'))
  (W:World) (hJ:AbidesFrom W.heap.size J) (hm:W.cell? ⟨Bm,0,none⟩=some (.map (some b))) (hown:gP W b es) (h0:J [] W):
  CallsIn F n prog 94 #[.func (.yield l) #[] #[],.pointer (some ⟨Bm,0,none⟩)] W fun e W'=>(∃v,e=.returned v)/\
   ((∃ys,ys.Perm es/\J ys W')\/(∃pre:List Nd,True/\Jx pre W')):=by
 refine callsIn_of_wp func94 rfl sr ?_ hro;simp only [ntmps94,bG,aQ,ah,Nat.reduceAdd,Nat.reduceSub,cD,cE,cG,cH,af,aq];gi_wp2_with (first
  |(gi_at_range;refine uD _ rfl _ rfl b es rfl hown ?_;intro w0 GM KX hs0)
  |gi_in)
 go_frame;gi_loopw [4] (fun _ wr=>∃(left pre:List Nd),jC wr b W.heap.size es left/\(pre++left).Perm es/\J pre wr)
  (fun _ wr=>wr.rangeLeft b W.heap.size)
 case atStart=>exact ⟨es,[],GM,List.Perm.refl _,hJ [] W w0 none h0 (eo KX none) (fun r e=>by cases e)⟩
 case round=>
  obtain ⟨left,pre,tg,wZ,zi⟩:=hrel;gi_wp2_with (first
   |(gi_at_next;refine wG _ rfl _ rfl b W.heap.size es left rfl tg ?_ ?_)
   |gi_in)
  ·intro hl0
   subst hl0;gi_wp2;go_end0;rw [bD] at wZ;exact ⟨⟨_,rfl⟩,.inl ⟨_,wZ,zi⟩⟩
  ·intro x left' w2 hp pI hg2 hs2 Oh
   have lY:J pre w2:=hJ _ wr w2 (some W.heap.size) zi hg2 (fun r e=>by cases e;exact ⟨aB _,tg.iter_walk⟩);have Dw:J pre (w2.alloc (.cells (nc x).toArray 38)):=hJ _ w2 _ none lY (Bo (dx _ _) _) (fun r e=>by cases e);have hpl:pre.length < es.length:=by
    have h1:=wZ.length_eq;have h2:=hp.length_eq;simp at h1 h2;omega
   have wv:=pI.alloc (.cells (nc x).toArray 38);have xA:((pre++[x])++left').Perm es:=by
    rw [bK];exact (List.Perm.append_left pre hp.symm).trans wZ
   obtain ⟨fn,tmps,assign,body,hy,hR⟩:=hY pre x (w2.alloc (.cells (nc x).toArray 38)) Dw hpl;have hleft:left'.length < left.length:=by rw [hp.length_eq];simp
   have HL:=dH hleft;have Vb:=dH tg;unfold nv at hy Oh;unfold sv at Oh;unfold nc at hy;have HR:=dH hR;have O5:=dH wv;clear hs2 lY Dw hR tg pI wv hpl hleft hp hg2 zi;gi_wp2;refine HR.o.mono ?_;rintro e W3 (⟨rfl,Dw,lM⟩| ⟨rfl,BQ⟩)
   ·have lJ:=dH (O5.o.of_walks lM)
    have Fw:=dH Dw;have EO:=dH xA;clear Dw lM xA;gi_wp2;go_roundw
    case rel=>exact ⟨left',pre++[x],lJ.o,EO.o,Fw.o⟩
    case measure=>rw [lJ.o.left,Vb.o.left];exact HL.o
   ·gi_wp2
    refine bodyPost_ret (results_none rfl _ _ _) rfl ?_;exact ⟨⟨_,rfl⟩,.inr ⟨_,trivial,BQ⟩⟩
theorem DC (F:Fence) (n:Nat) (sr:F.fn 94) (hro:F.round=none) (hn:1<=n) (Bm b:Nat) (es:List Nd) (w:World) (h1:Bm < w.heap.size) (Wk:w.cell? ⟨Bm,0,none⟩=some (.map (some b))) (hown:gP w b es):
  SeqStopsK F n prog 94 #[.pointer (some ⟨Bm,0,none⟩)] (fun x:Nd=>#[nv x]) KeepsWalks (fun ys=>ys.Perm es) (fun _=>True) es.length w:=fun l J Jx W hW hJ _ hY h0=>
 Jc F n sr hro hn l Bm b es J Jx hY W hJ ((hW.cell (p:=⟨Bm,0,none⟩) h1).trans Wk) (hown.below hW) h0
theorem Jd (b:Nat) (w:World):
  Calls prog 42 #[.map (some b)] w fun e w'=>e=.returned (.func (.func 94) #[] #[.pointer (some ⟨w.heap.size,0,none⟩)])/\w'=w.alloc (.cells #[.map (some b)] 63):=by
 go_enter func42,ntmps42;go_wp2_with fail;go_ret;exact ⟨rfl,rfl⟩
theorem FP (W:World) (t:TypeId) (x:Nd):∀(j:Nat) (u:Value),(nc x)[j]? =some u->(W.alloc (.cells (nc x).toArray t)).cell? ((Addr.mk W.heap.size 0 none).add j)=some u:=by
 intro j u hu;have e:(Addr.mk W.heap.size 0 none).add j= ⟨W.heap.size,j,none⟩:=by unfold Addr.add;split <;> simp_all
 rw [e,(Blk.new W t (nc x).toArray).cell,aP];exact hu
theorem Blk.toBox {W:World} {B:Nat} {t:TypeId} {v:Value} (h:Blk W B t #[v]):Boxed W B t v:=h
theorem Qo {β:Type} (B:Nat) (t:TypeId) (f:β->Array Value):Go.Own (fun s W=>Blk W B t (f s)):=fun s X Y row hs hg hrow=>by
 refine hs.grown hg (fun e=>?_);obtain ⟨o,ho,hc⟩:=hrow B e.symm;unfold Blk at hs;rw [hs] at ho;cases ho;cases hc
theorem nE {W:World} {base:Nat} {e:TypeId} {size:Nat} {v:Value} {k:Nat} {xs:List Value} (h:W.ownsRow base e size v k xs):∀(j:Nat) (o:Obj),v.ownBlock=some j->W.heap[j]? =some o->o.isWalk=false:=by
 intro j o hj ho;rcases h.2 with ⟨rfl,_⟩| ⟨g,cap,cur,rfl,_,hg,_⟩
 ·cases hj
 ·cases hj
  rw [hg] at ho;cases ho;rfl
theorem Ak (F:Fence) (n:Nat) (Wl:F.fn 151) (sr:F.fn 94) (hro:F.round=none) (hn:3<=n) (Bs b:Nat) (es:List Nd) (w:World) (Bk:es.length<=1000000) (h1:Bs < w.heap.size) (th:Boxed w Bs 63 (.map (some b))) (hmap:gP w b es):
  CallsIn F n prog 151 #[.slice none 0 0,.func (.func 94) #[] #[.pointer (some ⟨Bs,0,none⟩)]] w fun e w'=>∃v ys,e=.returned v/\ys.Perm es/\w'.ownsRow w.heap.size 38 7 v ys.length (jB ys)/\Below w.heap.size w w':=by
 have oz:1<=n:=by omega
 obtain ⟨i0,hi,hz0,hz1,hz2⟩:=info_parts pY;refine callsIn_of_wp_marks func151 rfl Wl ?_ hro;simp only [ntmps151,bG,aQ,ah,Nat.reduceAdd,Nat.reduceSub,cD,cE,cG,cH,af,aq];have bO:=Boxed.new w 33 (.slice none 0 0);have bS:=th.alloc (.cells #[.slice none 0 0] 33);have qK:=dD w (.cells #[.slice none 0 0] 33);have hsz:(w.alloc (.cells #[.slice none 0 0] 33)).heap.size=w.heap.size+1:=by simp
 obtain ⟨W0,GR⟩:=dB (w.alloc (.cells #[.slice none 0 0] 33));rw [<-GR] at bO bS qK hsz;have hm0:=hmap.below qK;have HW:=dH GR;clear GR;gi_wp2;rw [<-HW.o];refine wpIn_rangeFunc_ownH hro oz (gf:=94) (lb:=#[.pointer (some ⟨Bs,0,none⟩)]) rfl sr (enters_of func94 (by kernel_rfl) rfl)
  (DC F (n - 1) sr hro (by omega) Bs b es W0 (by omega) bS.cell hm0) KeepsWalks.trans (fun W l o o' hl h hc hw=>KeepsWalks.putObj _ h hw) (aC _ _) (fun _=>rfl)
  (fun (pre:List Nd) W=>(∃v,Boxed W w.heap.size 33 v/\W.ownsRow w.heap.size 38 7 v pre.length (jB pre)/\True)/\Below w.heap.size w W/\W0.heap.size<=W.heap.size)
  (fun _ _ _=>False)
  (OwnFrom.and (Own.from (holdsRow_own w.heap.size w.heap.size 33 38 7 (fun pre:List Nd=>pre.length) (fun pre=>jB pre) (fun _ _=>True)) _) (OwnFrom.and (ownFrom_below (aB _) (by omega)) (fun _ _ _ _ h hg _=>aK h hg.size)))
  (fun _ _ _ _ _ hs _ _=>hs)
  ⟨⟨_,bO,World.ownsRow_nil _ _ _ _,trivial⟩,qK,aB _⟩
  (fun x a' W=>∃Bx,w.heap.size < Bx/\Blk W Bx 38 (nc x).toArray/\a'={ tmps:=#[.slice none 0 0,.func (.func 94) #[] #[.pointer (some ⟨Bs,0,none⟩)],.pointer (some ⟨w.heap.size,0,none⟩),undef,.slice none 0 0,.pointer (some ⟨Bx,0,none⟩),.func (.func 94) #[] #[.pointer (some ⟨Bs,0,none⟩)],nv x,undef,undef,undef,undef,undef],defers:=[] })
  (fun x a' _ X Y row hs hg hr=>by obtain ⟨Bx,h1,h2,h3⟩:=hs;exact ⟨Bx,h1,Qo Bx 38 (fun (_:Unit)=>(nc x).toArray) () X Y row h2 hg (fun r e=>(hr r e).2),h3⟩)
  ?assign ?body ?done ?stop
 case assign=>
  rintro l pre x W K ⟨⟨v,hv,hrow,_⟩,fq,hge⟩ hK;unfold nv at hK ⊢;unfold nc at hK;gi_wp2;exact hK _ _ ((KeepsOthers.alloc _ _).from _) (KeepsWalks.alloc _ _) ⟨⟨v,hv.alloc _,hrow.alloc _,trivial⟩,fq.alloc fq.size _,by simp;omega⟩ ⟨W.heap.size,hv.lt,Blk.new _ _ _,rfl⟩
 case body=>
  rintro l pre x a' W hl ⟨r,hr⟩ ⟨⟨v,hv,hrow,_⟩,fq,hge⟩ ⟨Bx,hBx,bX,rfl⟩ hlt;have cB:=hv.cell;obtain ⟨c0,c1,c2,c3,c4,c5,c6⟩:=eU bX;have dS:=fq.size;have hcn:=FP W 38 x;have oz:=ng x;unfold nv;unfold nc at hcn oz;gi_wp2_with (gi_at_builtin;refine wpListIn_append_own _ rfl _ _ 33 rfl w.heap.size 38 i0 (.agg #[.int .i64 0,.int .i64 0,.bool false,.int .i64 0,.int .i64 0,.string ⟨#[]⟩,.string ⟨#[]⟩]) 7 72 underlying33 hi hz0 hz1 hz2 rfl (by decide) _ _ _ rfl (hrow.alloc _) ⟨W.heap.size,0,none⟩ 1 1 (nc x) rfl rfl hcn oz (by unfold maxLen;omega) (by omega) (by simp;omega) ?_;intro v' w1 hown' hgrow _;obtain ⟨g',cap',rfl⟩:=ownsRow_succ hown';have Rf:=(KeepsWalks.alloc W _).trans (KeepsWalks.of_grownBy hgrow (nE (hrow.alloc _)));obtain ⟨uG,Ht,hr2,hk2,dS⟩:=hv.appended (by decide) hrow fq.size (aB _) hown' hgrow;have hc1:=uG.cell;have zX:=uG.frozen);exact ⟨hk2.from _,Rf.trans (KeepsWalks.setCell _ _ _),⟨_,Ht,by rw [kS,aO];simpa [jB] using hr2,trivial⟩,fq.trans dS,aK hge hk2.size⟩
 case done=>
  rintro D ys W hD hys ⟨⟨v,hv,hrow,_⟩,hB,_⟩ hK;have hc:=hv.cell;gi_wp2;refine ⟨by simp,.inl ⟨_,_,rfl,run_takeDeferred hK,?_⟩⟩;exact ⟨_,results_tmp rfl _ _ _,v,ys,rfl,hys,ownsRow_putObj hrow (.deferred none) hK rfl,hB.trans (belowK_b (w:=w) (aB _) W D _ _ (by omega) hK rfl rfl)⟩
 case stop=>
  rintro D c pre W _ _ h _;exact h.elim
end
end Go.Proofs.YtgdaahffmcfhpaaGreatDoor
