/- Lemmas on the way: Ik. -/
import Derived.Test.YtgdaahffmcfhpaaGreatDoorT32
import Derived.Test.YtgdaahffmcfhpaaGreatDoorT00
set_option maxRecDepth 100000
set_option maxHeartbeats 8000000
namespace Go.Proofs.YtgdaahffmcfhpaaGreatDoor
open Tryz
namespace Ik
open Go.RowKit Go.Shelf
open Go.ChangeMaps (setBlock)
attribute [local go_sem] Oper.semAt_some dO dL dQ dM
abbrev En:=List UInt8×Value
abbrev sk (l:List UInt8):Value:=.string (bs l)
theorem info9s:(prog.info? 9).map (fun i=>(i.zero,i.size,i.bytes))=some (some (.string ⟨#[]⟩),1,16):=by kernel_rfl
def iE (l:List (En×Nat)):List (List UInt8×Value×Nat):=l.map fun p=>(p.1.1,p.1.2,p.2)
def iX (l:List (En×Nat)):List MapEntry:=(iE l).map (jb sk)
def MapE (w:World) (b:Nat) (es:List En):Prop:=
 ∃(l:List (En×Nat)) (clock:Nat),l.map (·.1)=es/\w.heap[b]? =some (.map (iX l).toArray clock)/\(l.map (·.2)).Nodup/\(∀e∈l,e.2 < clock)
theorem MapE.lt {w:World} {b:Nat} {es:List En} (h:MapE w b es):b < w.heap.size:=by
 obtain ⟨l,c,_,hb,_⟩:=h;exact gQ hb
theorem MapE.below {w w':World} {b:Nat} {es:List En} (h:MapE w b es) (hb:Below w.heap.size w w'):MapE w' b es:=by
 have hl:=h.lt;obtain ⟨l,c,h1,h2,rest⟩:=h;exact ⟨l,c,h1,(hb.block b hl).trans h2,rest⟩
theorem MapE.nil_ {w:World} {b:Nat} (h:w.heap[b]? =some (.map #[] 0)):MapE w b []:=⟨[],0,rfl,h,List.Pairwise.nil,by simp⟩
theorem MapE.one {w:World} {b:Nat} {k:List UInt8} {v:Value} (h:w.heap[b]? =some (.map #[{ key:=.string (bs k),val:=v,born:=0 }] 1)):MapE w b [(k,v)]:=⟨[((k,v),0)],1,rfl,h,by simp,by simp⟩
def RngE (w:World) (b r:Nat) (es rest:List En):Prop:=
 ∃(l:List (En×Nat)) (clock:Nat) (seen:Array Nat) (c0:Nat),l.map (·.1)=es/\w.heap[b]? =some (.map (iX l).toArray clock)/\(l.map (·.2)).Nodup/\(∀e∈l,e.2 < clock)/\
  w.heap[r]? =some (.mapIter (some b) clock seen c0)/\clock<=c0/\(l.filter fun e=>!seen.contains e.2).map (·.1)=rest
section
variable {w w':World} {b r:Nat} {es rest:List En}
theorem ki (l:List (En×Nat)) (seen:Array Nat):(leftOf (iX l).toArray seen).toList=iX (l.filter fun e=>!seen.contains e.2):=by
 unfold leftOf iX iE;simp only [List.map_map,List.filter_toArray,List.filter_map];rfl
theorem qt {l:List (En×Nat)} {e:MapEntry} (h:e∈iX l):∃p∈l,e=jb sk (p.1.1,p.1.2,p.2):=by
 unfold iX iE at h;rw [List.map_map] at h;obtain ⟨p,hp,rfl⟩:=aV.1 h;exact ⟨p,hp,rfl⟩
theorem vm (l:List (En×Nat)):(iX l).map (·.born)=l.map (·.2):=by
 unfold iX iE;simp [jb,Function.comp_def]
theorem mH {seen:Array Nat} {p:En×Nat}:∀{l:List (En×Nat)},(l.map (·.2)).Nodup->p∈l->seen.contains p.2=false->
  (l.filter fun x=>!seen.contains x.2).Perm (p :: (l.filter fun x=>!(seen.push p.2).contains x.2))
 | [],_,h,_=>by cases h
 |a :: r,hn,h,hs=>by
  rw [ai,List.nodup_cons] at hn;obtain ⟨oz,hn2⟩:=hn;by_cases ha:a=p
  ·subst ha
   have hr:r.filter (fun x=>!(seen.push a.2).contains x.2)=r.filter (fun x=>!seen.contains x.2):=by
    apply List.filter_congr;intro x hx;have hne:x.2≠a.2:=fun e'=>oz (e' ▸ aV.2 ⟨x,hx,rfl⟩)
    simp [hne]
   have h1:(!(seen.push a.2).contains a.2)=false:=by simp
   have h2:(!seen.contains a.2)=true:=by rw [hs];rfl
   rw [bZ,bZ,h1,h2,hr];simp
  ·have he:p∈r:=by rcases aR.1 h with h|h;exact absurd h.symm ha;exact h
   have ih:=mH hn2 he hs;have hne:a.2≠p.2:=fun e'=>oz (e' ▸ aV.2 ⟨p,he,rfl⟩)
   have h1:(!(seen.push p.2).contains a.2)=(!seen.contains a.2):=by simp [hne]
   rw [bZ,bZ,h1];cases (!seen.contains a.2) with
   |false=>simpa using ih
   |true=>
    simp only [if_true];exact (ih.cons a).trans (List.Perm.swap _ _ _)
theorem RngE.left (h:RngE w b r es rest):w.rangeLeft b r=rest.length:=by
 obtain ⟨l,c,seen,c0,_,hb,_,_,hr,_,hc⟩:=h;unfold World.rangeLeft;rw [hb,hr];simp only;rw [<-hc,bM,<-bp,ki];simp [iX,iE]
theorem RngE.next {P:Program} (h:RngE w b r es rest) (ty:TypeId):
  (rest=[]/\(Instr.next (.pointer (some ⟨r,0,none⟩)) false ty).run P w=.ok (.tuple #[.bool false]) w)\/
  ∃n rest' w',rest.Perm (n :: rest')/\(Instr.next (.pointer (some ⟨r,0,none⟩)) false ty).run P w=.ok (.tuple #[.bool true,sk n.1,n.2]) w'/\RngE w' b r es rest'/\w.grownBy w' (some r)/\w'.heap.size=w.heap.size/\
   (Instr.entry (.pointer (some ⟨r,0,none⟩))).run P w'=.ok (.tuple #[sk n.1,n.2]) w':=by
 obtain ⟨l,c,seen,c0,hl,hb,hnd,hlt,hr,hle,hc⟩:=h;have qS:b≠r:=by rintro rfl;rw [hb] at hr;cases hr
 have hold:∀x∈(iX l).toArray.toList,x.born < c:=fun x hx=>by
  obtain ⟨p,hp,rfl⟩:=qt (by simpa using hx);exact hlt p hp
 rcases run_next_at (P:=P) w ty r b c c0 seen (iX l).toArray c hr hb hold hle with ⟨h0,hrun⟩| ⟨e,he,w1,eN,hrun⟩
 ·have hnil:l.filter (fun x=>!seen.contains x.2)=[]:=by
   have h1:=ki l seen;rw [bH (show (leftOf (iX l).toArray seen).toList.length=0 by rw [bp];exact h0)] at h1;have:=congrArg List.length h1;simp only [iX,iE,ah,bM] at this;exact bH this.symm
  rw [hnil] at hc;exact .inl ⟨hc.symm,hrun⟩
 ·rw [ki] at he
  obtain ⟨p,hp,rfl⟩:=qt he;obtain ⟨hpl,hps⟩:=List.mem_filter.1 hp;have V5:seen.contains p.2=false:=by simpa using hps
  have V6:=mH hnd hpl V5;have Dj:w1.heap[r]? =some (.mapIter (some b) c seen c0):=by rcases eN with rfl|rfl <;> exact hr
  have gR:=MapKept.heap_set (o':=.mapIter (some b) c (seen.push p.2) c) Dj;have hb':(setBlock w1 r (.mapIter (some b) c (seen.push p.2) c)).heap[b]? =some (.map (iX l).toArray c):=(gR.2 b (fun e1=>qS e1)).trans (by rcases eN with rfl|rfl <;> exact hb);refine .inr ⟨p.1,(l.filter fun x=>!(seen.push p.2).contains x.2).map (·.1),_,?_,hrun,⟨l,c,seen.push p.2,c,hl,hb',hnd,hlt,gR.1,aB _,rfl⟩,?_,?_,?_⟩
  ·rw [<-hc]
   exact V6.map _
  ·have hg1:w.grownBy w1 (some r):=by rcases eN with rfl|rfl;exact dx _ _;exact jv (dx _ _)
   exact fT hg1 ⟨rfl,rfl,rfl,by simp [setBlock],fun i _ hne=>gR.2 i (fun e=>hne (by rw [e]))⟩
  ·have:w1.heap.size=w.heap.size:=by rcases eN with rfl|rfl <;> rfl
   rw [<-this];simp [setBlock]
  ·exact run_entry_at (P:=P) _ r b c seen (iX l).toArray c _ gR.1 hb' (by
    have h2:jb sk (p.1.1,p.1.2,p.2)∈iX l:=by unfold iX iE;exact aV.2 ⟨_,aV.2 ⟨p,hpl,rfl⟩,rfl⟩
    simpa using h2) (by
    have:=vm l;simpa [this] using hnd)
theorem MapE.range {P:Program} (h:MapE w b es) (mt kt et:TypeId) (hm:P.underlying mt=some (.map kt et)):
  ∃w',(Instr.range mt (.map (some b))).run P w=.ok (.pointer (some ⟨w.heap.size,0,none⟩)) w'/\RngE w' b w.heap.size es es/\Below w.heap.size w w'/\w'.heap.size=w.heap.size+1:=by
 have hlt:=h.lt;obtain ⟨l,c,hl,hb,hnd,hlt'⟩:=h;refine ⟨_,run_range_map w mt kt et b _ _ hm hb,⟨l,c,#[],c,hl,(bE w _ b hlt).trans hb,hnd,hlt',heap_alloc_new w _,aB _,?_⟩,(aC _ w).alloc (aB _) _,by simp⟩;rw [<-hl];congr 1;simp
end
theorem RngE.of_walks {w w':World} {b r:Nat} {es rest:List En} (h:RngE w b r es rest) (k:KeepsWalks w w'):RngE w' b r es rest:=by
 obtain ⟨l,c,seen,c0,h1,h2,h3,h4,h6,h7⟩:=h;exact ⟨l,c,seen,c0,h1,k.same b _ h2 rfl,h3,h4,k.same r _ h6 rfl,h7⟩
theorem RngE.iter_walk {w:World} {b r:Nat} {es rest:List En} (h:RngE w b r es rest):∃o:Obj,w.heap[r]? =some o/\o.isWalk=true:=by
 obtain ⟨l,c,seen,c0,h1,h2,h3,h4,h6,h7⟩:=h;exact ⟨_,h6,rfl⟩
section
variable {F:Fence} {n:Nat} (w:World) {ops:Array Oper} {rest:List Oper} {o:Oper} {a:Act} {Q:Exit->Act->World->Prop}
theorem jk (hg:o.guard=none) (m:Operand) (mt kt et:TypeId) (Rk:prog.underlying mt=some (.map kt et)) (hop:o.op=Op.range mt m) (b:Nat) (es:List En) (hm:a.eval m=.map (some b)) (hown:MapE w b es)
  (hK:∀w',RngE w' b w.heap.size es es->Below w.heap.size w w'->w'.heap.size=w.heap.size+1->wpListIn F n prog ops Q rest (a.put o.dst (.pointer (some ⟨w.heap.size,0,none⟩))) w'):
  wpListIn F n prog ops Q (o :: rest) a w:=by
 refine wpListIn_plain hg fun K' zh=>?_
 obtain ⟨w',hrun,r1,r2,r3⟩:=hown.range mt kt et Rk;unfold Oper.wpIn;refine ⟨?_,?_⟩
 ·simp [Oper.about,hop]
 ·rw [Oper.semAt_plain F _ _ (by rw [hop];intro c BZ;cases BZ)]
  simp [execOp,hop,hm,hrun,Result.andThen];exact zh _ _ (hK w' r1 r2 r3)
theorem l9 (hg:o.guard=none) (it:Operand) (hop:o.op=Op.next it false) (b r:Nat) (es left:List En) (hit:a.eval it=.pointer (some ⟨r,0,none⟩)) (h:RngE w b r es left)
  (hDone:left=[]->wpListIn F n prog ops Q rest (a.put o.dst (.tuple #[.bool false])) w)
  (hMore:∀x left' w',left.Perm (x :: left')->RngE w' b r es left'->w.grownBy w' (some r)->w'.heap.size=w.heap.size->(Instr.entry (.pointer (some ⟨r,0,none⟩))).run prog w'=.ok (.tuple #[sk x.1,x.2]) w'->wpListIn F n prog ops Q rest (a.put o.dst (.tuple #[.bool true,sk x.1,x.2])) w'):
  wpListIn F n prog ops Q (o :: rest) a w:=by
 refine wpListIn_plain hg fun K' zh=>?_
 unfold Oper.wpIn;refine ⟨by simp [Oper.about,hop],?_⟩;rw [Oper.semAt_plain F _ _ (by rw [hop];intro c BZ;cases BZ)];rcases h.next (P:=prog) o.type with ⟨h0,hrun⟩| ⟨x,left',w',hp,hrun,tg,oy,hsz,Oh⟩
 ·simp [execOp,hop,hit,hrun,Result.andThen]
  exact zh _ _ (hDone h0)
 ·simp [execOp,hop,hit,hrun,Result.andThen]
  exact zh _ _ (hMore x left' w' hp tg oy hsz Oh)
end
theorem MU (F:Fence) (n:Nat) (sr:F.fn 391) (hro:F.round=none) (hn:1<=n) (l Bm b:Nat) (es:List En) (J Jx:List En->World->Prop)
  (hY:∀pre x W,J pre W->pre.length < es.length->YieldAt F (n - 1) prog l #[sk x.1] W fun e W'=>
   (e=.returned (.bool true)/\J (pre++[x]) W'/\KeepsWalks W W')\/(e=.returned (.bool false)/\Jx (pre++[x]) W'))
  (W:World) (hJ:AbidesFrom W.heap.size J) (hm:W.cell? ⟨Bm,0,none⟩=some (.map (some b))) (hown:MapE W b es) (h0:J [] W):
  CallsIn F n prog 391 #[.func (.yield l) #[] #[],.pointer (some ⟨Bm,0,none⟩)] W fun e W'=>(∃v,e=.returned v)/\
   ((∃ys,ys.Perm es/\J ys W')\/(∃pre:List En,True/\Jx pre W')):=by
 refine callsIn_of_wp func391 rfl sr ?_ hro;simp only [ntmps391,bG,aQ,ah,Nat.reduceAdd,Nat.reduceSub,cD,cE,cG,cH,af,aq];gi_wp2_with (first
  |(gi_at_range;refine jk _ rfl _ 191 9 9 underlying191 rfl b es rfl hown ?_;intro w0 GM KX hs0)
  |gi_in)
 go_frame;gi_loopw [3] (fun _ wr=>∃(left pre:List En),RngE wr b W.heap.size es left/\(pre++left).Perm es/\J pre wr)
  (fun _ wr=>wr.rangeLeft b W.heap.size)
 case atStart=>exact ⟨es,[],GM,List.Perm.refl _,hJ [] W w0 none h0 (eo KX none) (fun r e=>by cases e)⟩
 case round=>
  obtain ⟨left,pre,tg,wZ,zi⟩:=hrel;gi_wp2_with (first
   |(gi_at_next;refine l9 _ rfl _ rfl b W.heap.size es left rfl tg ?_ ?_)
   |gi_in)
  ·intro hl0
   subst hl0;gi_wp2;go_end0;rw [bD] at wZ;exact ⟨⟨_,rfl⟩,.inl ⟨_,wZ,zi⟩⟩
  ·intro xk xv left' w2 hp pI hg2 hs2 Oh
   have lY:J pre w2:=hJ _ wr w2 (some W.heap.size) zi hg2 (fun r e=>by cases e;exact ⟨aB _,tg.iter_walk⟩);have hpl:pre.length < es.length:=by
    have h1:=wZ.length_eq;have h2:=hp.length_eq;simp at h1 h2;omega
   have wv:=pI;have xA:((pre++[(xk,xv)])++left').Perm es:=by
    rw [bK];exact (List.Perm.append_left pre hp.symm).trans wZ
   obtain ⟨fn,tmps,assign,body,hy,hR⟩:=hY pre (xk,xv) w2 lY hpl;have hleft:left'.length < left.length:=by rw [hp.length_eq];simp
   have HL:=dH hleft;have Vb:=dH tg;have HR:=dH hR;have O5:=dH wv;clear hs2 lY hR tg pI wv hpl hleft hp hg2 zi;gi_wp2;refine HR.o.mono ?_;rintro e W3 (⟨rfl,Dw,lM⟩| ⟨rfl,BQ⟩)
   ·have lJ:=dH (O5.o.of_walks lM)
    have Fw:=dH Dw;have EO:=dH xA;clear Dw lM xA;gi_wp2;go_roundw
    case rel=>exact ⟨left',pre++[(xk,xv)],lJ.o,EO.o,Fw.o⟩
    case measure=>rw [lJ.o.left,Vb.o.left];exact HL.o
   ·gi_wp2
    refine bodyPost_ret (results_none rfl _ _ _) rfl ?_;exact ⟨⟨_,rfl⟩,.inr ⟨_,trivial,BQ⟩⟩
theorem xq (F:Fence) (n:Nat) (sr:F.fn 391) (hro:F.round=none) (hn:1<=n) (Bm b:Nat) (es:List En) (w:World) (h1:Bm < w.heap.size) (Wk:w.cell? ⟨Bm,0,none⟩=some (.map (some b))) (hown:MapE w b es):
  SeqStopsK F n prog 391 #[.pointer (some ⟨Bm,0,none⟩)] (fun x:En=>#[sk x.1]) KeepsWalks (fun ys=>ys.Perm es) (fun _=>True) es.length w:=fun l J Jx W hW hJ _ hY h0=>
 MU F n sr hro hn l Bm b es J Jx hY W hJ ((hW.cell (p:=⟨Bm,0,none⟩) h1).trans Wk) (hown.below hW) h0
theorem keys_any_ss (b:Nat) (w:World):
  Calls prog 352 #[.map (some b)] w fun e w'=>e=.returned (.func (.func 391) #[] #[.pointer (some ⟨w.heap.size,0,none⟩)])/\w'=w.alloc (.cells #[.map (some b)] 191):=by
 go_enter func352,ntmps352;go_wp2_with fail;go_ret;exact ⟨rfl,rfl⟩
theorem Am (F:Fence) (n:Nat) (Wl:F.fn 318) (sr:F.fn 391) (hro:F.round=none) (hn:3<=n) (Bs b:Nat) (es:List En) (w:World) (Bk:es.length<=1000000) (h1:Bs < w.heap.size) (th:Boxed w Bs 191 (.map (some b))) (hmap:MapE w b es):
  CallsIn F n prog 318 #[.slice none 0 0,.func (.func 391) #[] #[.pointer (some ⟨Bs,0,none⟩)]] w fun e w'=>∃v ys,e=.returned v/\List.Perm ys es/\w'.ownsRow w.heap.size 9 1 v ys.length (strs (ys.map (·.1)))/\Below w.heap.size w w':=by
 have oz:1<=n:=by omega
 obtain ⟨i0,hi,hz0,hz1,hz2⟩:=info_parts info9s;refine callsIn_of_wp_marks func318 rfl Wl ?_ hro;simp only [ntmps318,bG,aQ,ah,Nat.reduceAdd,Nat.reduceSub,cD,cE,cG,cH,af,aq];have bO:=Boxed.new w 99 (.slice none 0 0);have bS:=th.alloc (.cells #[.slice none 0 0] 99);have qK:=dD w (.cells #[.slice none 0 0] 99);have hsz:(w.alloc (.cells #[.slice none 0 0] 99)).heap.size=w.heap.size+1:=by simp
 obtain ⟨W0,GR⟩:=dB (w.alloc (.cells #[.slice none 0 0] 99));rw [<-GR] at bO bS qK hsz;have hm0:=hmap.below qK;have HW:=dH GR;clear GR;gi_wp2;rw [<-HW.o];refine wpIn_rangeFunc_ownG hro oz (gf:=391) (lb:=#[.pointer (some ⟨Bs,0,none⟩)]) rfl sr (enters_of func391 (by kernel_rfl) rfl)
  (xq F (n - 1) sr hro (by omega) Bs b es W0 (by omega) bS.cell hm0) KeepsWalks.trans (fun W l o o' hl h hc hw=>KeepsWalks.putObj _ h hw) (aC _ _) (fun _=>rfl)
  (fun (pre:List En) W=>(∃v,Boxed W w.heap.size 99 v/\W.ownsRow w.heap.size 9 1 v pre.length (strs (pre.map (·.1)))/\True)/\Below w.heap.size w W/\W0.heap.size<=W.heap.size)
  (fun _ _ _=>False)
  (OwnFrom.and (Own.from (holdsRow_own w.heap.size w.heap.size 99 9 1 (fun pre:List En=>pre.length) (fun pre=>strs (pre.map (·.1))) (fun _ _=>True)) _) (OwnFrom.and (ownFrom_below (aB _) (by omega)) (fun _ _ _ _ h hg _=>aK h hg.size)))
  (fun _ _ _ _ _ hs _ _=>hs)
  ⟨⟨_,bO,World.ownsRow_nil _ _ _ _,trivial⟩,qK,aB _⟩
  (fun x=>{ tmps:=#[.slice none 0 0,.func (.func 391) #[] #[.pointer (some ⟨Bs,0,none⟩)],.pointer (some ⟨w.heap.size,0,none⟩),undef,.slice none 0 0,sk x.1,.func (.func 391) #[] #[.pointer (some ⟨Bs,0,none⟩)],sk x.1,undef,undef,undef,undef,undef],defers:=[] })
  ?assign ?body ?done ?stop
 case assign=>
  intro l x W K hK;gi_wp2;exact hK
 case body=>
  rintro l pre x W ⟨⟨v,hv,hrow,_⟩,fq,hge⟩ hlt;have hc:=hv.cell;gi_wp2_with (gi_at_builtin;refine wpListIn_append_own _ rfl _ _ 99 rfl w.heap.size 9 i0 (.string ⟨#[]⟩) 1 16 underlying99 hi hz0 hz1 hz2 rfl (by decide) _ _ _ rfl (hrow.alloc _) ⟨W.heap.size,0,none⟩ 1 1 [sk x.1] rfl rfl (cell_one_new _ _ _) (by simp [Value.oneCell']) (by unfold maxLen;omega) (by omega) (by simp;omega) ?_;intro v' w1 hown' hgrow _;obtain ⟨g',cap',rfl⟩:=ownsRow_succ hown';have Rf:=(KeepsWalks.alloc W _).trans (KeepsWalks.of_grownBy hgrow (nE (hrow.alloc _)));obtain ⟨uG,Ht,hr2,hk2,dS⟩:=hv.appended (by decide) hrow fq.size (aB _) hown' hgrow;have hc1:=uG.cell;have zX:=uG.frozen);exact ⟨hk2.from _,Rf.trans (KeepsWalks.setCell _ _ _),⟨_,Ht,by rw [bV,jS,aO];exact hr2,trivial⟩,fq.trans dS,aK hge hk2.size⟩
 case done=>
  rintro D ys W hD hys ⟨⟨v,hv,hrow,_⟩,hB,_⟩ hK;have hc:=hv.cell;gi_wp2;refine ⟨by simp,.inl ⟨_,_,rfl,run_takeDeferred hK,?_⟩⟩;exact ⟨_,results_tmp rfl _ _ _,v,ys,rfl,hys,ownsRow_putObj hrow (.deferred none) hK rfl,hB.trans (belowK_b (w:=w) (aB _) W D _ _ (by omega) hK rfl rfl)⟩
 case stop=>
  rintro D c pre W _ _ h _;exact h.elim
theorem collect_ss (Bs b:Nat) (es:List En) (w:World) (Bk:es.length<=1000000) (h1:Bs < w.heap.size) (th:Boxed w Bs 191 (.map (some b))) (hmap:MapE w b es):
  Calls prog 256 #[.func (.func 391) #[] #[.pointer (some ⟨Bs,0,none⟩)]] w fun e w'=>∃v ys,e=.returned v/\List.Perm ys es/\w'.ownsRow w.heap.size 9 1 v ys.length (strs (ys.map (·.1)))/\Below w.heap.size w w':=by
 have H:=dH ((callsIn_wide (n:=5)).1 (Am Fence.wide 5 trivial trivial rfl (by omega) Bs b es w Bk h1 th hmap));clear th hmap;go_enter func256,ntmps256;go_wp2_with fail;refine H.o.mono ?_;rintro e w' ⟨v,ys,rfl,hp,ho,hb⟩;have HP:=dH hp;have HO:=dH ho;have HB:=dH hb;clear hp ho hb;go_wp2_with fail;go_ret;exact ⟨_,ys,rfl,HP.o,HO.o,HB.o⟩
theorem MV (F:Fence) (n:Nat) (sr:F.fn 258) (hro:F.round=none) (hn:1<=n) (l Bm b:Nat) (es:List En) (J Jx:List En->World->Prop)
  (hY:∀pre x W,J pre W->pre.length < es.length->YieldAt F (n - 1) prog l #[sk x.1] W fun e W'=>
   (e=.returned (.bool true)/\J (pre++[x]) W'/\KeepsWalks W W')\/(e=.returned (.bool false)/\Jx (pre++[x]) W'))
  (W:World) (hJ:AbidesFrom W.heap.size J) (hm:W.cell? ⟨Bm,0,none⟩=some (.map (some b))) (hown:MapE W b es) (h0:J [] W):
  CallsIn F n prog 258 #[.func (.yield l) #[] #[],.pointer (some ⟨Bm,0,none⟩)] W fun e W'=>(∃v,e=.returned v)/\
   ((∃ys,ys.Perm es/\J ys W')\/(∃pre:List En,True/\Jx pre W')):=by
 refine callsIn_of_wp func258 rfl sr ?_ hro;simp only [ntmps258,bG,aQ,ah,Nat.reduceAdd,Nat.reduceSub,cD,cE,cG,cH,af,aq];gi_wp2_with (first
  |(gi_at_range;refine jk _ rfl _ 225 9 3 underlying225 rfl b es rfl hown ?_;intro w0 GM KX hs0)
  |gi_in)
 go_frame;gi_loopw [3] (fun _ wr=>∃(left pre:List En),RngE wr b W.heap.size es left/\(pre++left).Perm es/\J pre wr)
  (fun _ wr=>wr.rangeLeft b W.heap.size)
 case atStart=>exact ⟨es,[],GM,List.Perm.refl _,hJ [] W w0 none h0 (eo KX none) (fun r e=>by cases e)⟩
 case round=>
  obtain ⟨left,pre,tg,wZ,zi⟩:=hrel;gi_wp2_with (first
   |(gi_at_next;refine l9 _ rfl _ rfl b W.heap.size es left rfl tg ?_ ?_)
   |gi_in)
  ·intro hl0
   subst hl0;gi_wp2;go_end0;rw [bD] at wZ;exact ⟨⟨_,rfl⟩,.inl ⟨_,wZ,zi⟩⟩
  ·intro xk xv left' w2 hp pI hg2 hs2 Oh
   have lY:J pre w2:=hJ _ wr w2 (some W.heap.size) zi hg2 (fun r e=>by cases e;exact ⟨aB _,tg.iter_walk⟩);have hpl:pre.length < es.length:=by
    have h1:=wZ.length_eq;have h2:=hp.length_eq;simp at h1 h2;omega
   have wv:=pI;have xA:((pre++[(xk,xv)])++left').Perm es:=by
    rw [bK];exact (List.Perm.append_left pre hp.symm).trans wZ
   obtain ⟨fn,tmps,assign,body,hy,hR⟩:=hY pre (xk,xv) w2 lY hpl;have hleft:left'.length < left.length:=by rw [hp.length_eq];simp
   have HL:=dH hleft;have Vb:=dH tg;have HR:=dH hR;have O5:=dH wv;clear hs2 lY hR tg pI wv hpl hleft hp hg2 zi;gi_wp2;refine HR.o.mono ?_;rintro e W3 (⟨rfl,Dw,lM⟩| ⟨rfl,BQ⟩)
   ·have lJ:=dH (O5.o.of_walks lM)
    have Fw:=dH Dw;have EO:=dH xA;clear Dw lM xA;gi_wp2;go_roundw
    case rel=>exact ⟨left',pre++[(xk,xv)],lJ.o,EO.o,Fw.o⟩
    case measure=>rw [lJ.o.left,Vb.o.left];exact HL.o
   ·gi_wp2
    refine bodyPost_ret (results_none rfl _ _ _) rfl ?_;exact ⟨⟨_,rfl⟩,.inr ⟨_,trivial,BQ⟩⟩
theorem xu (F:Fence) (n:Nat) (sr:F.fn 258) (hro:F.round=none) (hn:1<=n) (Bm b:Nat) (es:List En) (w:World) (h1:Bm < w.heap.size) (Wk:w.cell? ⟨Bm,0,none⟩=some (.map (some b))) (hown:MapE w b es):
  SeqStopsK F n prog 258 #[.pointer (some ⟨Bm,0,none⟩)] (fun x:En=>#[sk x.1]) KeepsWalks (fun ys=>ys.Perm es) (fun _=>True) es.length w:=fun l J Jx W hW hJ _ hY h0=>
 MV F n sr hro hn l Bm b es J Jx hY W hJ ((hW.cell (p:=⟨Bm,0,none⟩) h1).trans Wk) (hown.below hW) h0
theorem keys_any_si (b:Nat) (w:World):
  Calls prog 185 #[.map (some b)] w fun e w'=>e=.returned (.func (.func 258) #[] #[.pointer (some ⟨w.heap.size,0,none⟩)])/\w'=w.alloc (.cells #[.map (some b)] 225):=by
 go_enter func185,ntmps185;go_wp2_with fail;go_ret;exact ⟨rfl,rfl⟩
theorem An (F:Fence) (n:Nat) (Wl:F.fn 318) (sr:F.fn 258) (hro:F.round=none) (hn:3<=n) (Bs b:Nat) (es:List En) (w:World) (Bk:es.length<=1000000) (h1:Bs < w.heap.size) (th:Boxed w Bs 225 (.map (some b))) (hmap:MapE w b es):
  CallsIn F n prog 318 #[.slice none 0 0,.func (.func 258) #[] #[.pointer (some ⟨Bs,0,none⟩)]] w fun e w'=>∃v ys,e=.returned v/\List.Perm ys es/\w'.ownsRow w.heap.size 9 1 v ys.length (strs (ys.map (·.1)))/\Below w.heap.size w w':=by
 have oz:1<=n:=by omega
 obtain ⟨i0,hi,hz0,hz1,hz2⟩:=info_parts info9s;refine callsIn_of_wp_marks func318 rfl Wl ?_ hro;simp only [ntmps318,bG,aQ,ah,Nat.reduceAdd,Nat.reduceSub,cD,cE,cG,cH,af,aq];have bO:=Boxed.new w 99 (.slice none 0 0);have bS:=th.alloc (.cells #[.slice none 0 0] 99);have qK:=dD w (.cells #[.slice none 0 0] 99);have hsz:(w.alloc (.cells #[.slice none 0 0] 99)).heap.size=w.heap.size+1:=by simp
 obtain ⟨W0,GR⟩:=dB (w.alloc (.cells #[.slice none 0 0] 99));rw [<-GR] at bO bS qK hsz;have hm0:=hmap.below qK;have HW:=dH GR;clear GR;gi_wp2;rw [<-HW.o];refine wpIn_rangeFunc_ownG hro oz (gf:=258) (lb:=#[.pointer (some ⟨Bs,0,none⟩)]) rfl sr (enters_of func258 (by kernel_rfl) rfl)
  (xu F (n - 1) sr hro (by omega) Bs b es W0 (by omega) bS.cell hm0) KeepsWalks.trans (fun W l o o' hl h hc hw=>KeepsWalks.putObj _ h hw) (aC _ _) (fun _=>rfl)
  (fun (pre:List En) W=>(∃v,Boxed W w.heap.size 99 v/\W.ownsRow w.heap.size 9 1 v pre.length (strs (pre.map (·.1)))/\True)/\Below w.heap.size w W/\W0.heap.size<=W.heap.size)
  (fun _ _ _=>False)
  (OwnFrom.and (Own.from (holdsRow_own w.heap.size w.heap.size 99 9 1 (fun pre:List En=>pre.length) (fun pre=>strs (pre.map (·.1))) (fun _ _=>True)) _) (OwnFrom.and (ownFrom_below (aB _) (by omega)) (fun _ _ _ _ h hg _=>aK h hg.size)))
  (fun _ _ _ _ _ hs _ _=>hs)
  ⟨⟨_,bO,World.ownsRow_nil _ _ _ _,trivial⟩,qK,aB _⟩
  (fun x=>{ tmps:=#[.slice none 0 0,.func (.func 258) #[] #[.pointer (some ⟨Bs,0,none⟩)],.pointer (some ⟨w.heap.size,0,none⟩),undef,.slice none 0 0,sk x.1,.func (.func 258) #[] #[.pointer (some ⟨Bs,0,none⟩)],sk x.1,undef,undef,undef,undef,undef],defers:=[] })
  ?assign ?body ?done ?stop
 case assign=>
  intro l x W K hK;gi_wp2;exact hK
 case body=>
  rintro l pre x W ⟨⟨v,hv,hrow,_⟩,fq,hge⟩ hlt;have hc:=hv.cell;gi_wp2_with (gi_at_builtin;refine wpListIn_append_own _ rfl _ _ 99 rfl w.heap.size 9 i0 (.string ⟨#[]⟩) 1 16 underlying99 hi hz0 hz1 hz2 rfl (by decide) _ _ _ rfl (hrow.alloc _) ⟨W.heap.size,0,none⟩ 1 1 [sk x.1] rfl rfl (cell_one_new _ _ _) (by simp [Value.oneCell']) (by unfold maxLen;omega) (by omega) (by simp;omega) ?_;intro v' w1 hown' hgrow _;obtain ⟨g',cap',rfl⟩:=ownsRow_succ hown';have Rf:=(KeepsWalks.alloc W _).trans (KeepsWalks.of_grownBy hgrow (nE (hrow.alloc _)));obtain ⟨uG,Ht,hr2,hk2,dS⟩:=hv.appended (by decide) hrow fq.size (aB _) hown' hgrow;have hc1:=uG.cell;have zX:=uG.frozen);exact ⟨hk2.from _,Rf.trans (KeepsWalks.setCell _ _ _),⟨_,Ht,by rw [bV,jS,aO];exact hr2,trivial⟩,fq.trans dS,aK hge hk2.size⟩
 case done=>
  rintro D ys W hD hys ⟨⟨v,hv,hrow,_⟩,hB,_⟩ hK;have hc:=hv.cell;gi_wp2;refine ⟨by simp,.inl ⟨_,_,rfl,run_takeDeferred hK,?_⟩⟩;exact ⟨_,results_tmp rfl _ _ _,v,ys,rfl,hys,ownsRow_putObj hrow (.deferred none) hK rfl,hB.trans (belowK_b (w:=w) (aB _) W D _ _ (by omega) hK rfl rfl)⟩
 case stop=>
  rintro D c pre W _ _ h _;exact h.elim
theorem collect_si (Bs b:Nat) (es:List En) (w:World) (Bk:es.length<=1000000) (h1:Bs < w.heap.size) (th:Boxed w Bs 225 (.map (some b))) (hmap:MapE w b es):
  Calls prog 256 #[.func (.func 258) #[] #[.pointer (some ⟨Bs,0,none⟩)]] w fun e w'=>∃v ys,e=.returned v/\List.Perm ys es/\w'.ownsRow w.heap.size 9 1 v ys.length (strs (ys.map (·.1)))/\Below w.heap.size w w':=by
 have H:=dH ((callsIn_wide (n:=5)).1 (An Fence.wide 5 trivial trivial rfl (by omega) Bs b es w Bk h1 th hmap));clear th hmap;go_enter func256,ntmps256;go_wp2_with fail;refine H.o.mono ?_;rintro e w' ⟨v,ys,rfl,hp,ho,hb⟩;have HP:=dH hp;have HO:=dH ho;have HB:=dH hb;clear hp ho hb;go_wp2_with fail;go_ret;exact ⟨_,ys,rfl,HP.o,HO.o,HB.o⟩
theorem MW (F:Fence) (n:Nat) (sr:F.fn 260) (hro:F.round=none) (hn:1<=n) (l Bm b:Nat) (es:List En) (J Jx:List En->World->Prop)
  (hY:∀pre x W,J pre W->pre.length < es.length->YieldAt F (n - 1) prog l #[sk x.1] W fun e W'=>
   (e=.returned (.bool true)/\J (pre++[x]) W'/\KeepsWalks W W')\/(e=.returned (.bool false)/\Jx (pre++[x]) W'))
  (W:World) (hJ:AbidesFrom W.heap.size J) (hm:W.cell? ⟨Bm,0,none⟩=some (.map (some b))) (hown:MapE W b es) (h0:J [] W):
  CallsIn F n prog 260 #[.func (.yield l) #[] #[],.pointer (some ⟨Bm,0,none⟩)] W fun e W'=>(∃v,e=.returned v)/\
   ((∃ys,ys.Perm es/\J ys W')\/(∃pre:List En,True/\Jx pre W')):=by
 refine callsIn_of_wp func260 rfl sr ?_ hro;simp only [ntmps260,bG,aQ,ah,Nat.reduceAdd,Nat.reduceSub,cD,cE,cG,cH,af,aq];gi_wp2_with (first
  |(gi_at_range;refine jk _ rfl _ 122 9 4 underlying122 rfl b es rfl hown ?_;intro w0 GM KX hs0)
  |gi_in)
 go_frame;gi_loopw [3] (fun _ wr=>∃(left pre:List En),RngE wr b W.heap.size es left/\(pre++left).Perm es/\J pre wr)
  (fun _ wr=>wr.rangeLeft b W.heap.size)
 case atStart=>exact ⟨es,[],GM,List.Perm.refl _,hJ [] W w0 none h0 (eo KX none) (fun r e=>by cases e)⟩
 case round=>
  obtain ⟨left,pre,tg,wZ,zi⟩:=hrel;gi_wp2_with (first
   |(gi_at_next;refine l9 _ rfl _ rfl b W.heap.size es left rfl tg ?_ ?_)
   |gi_in)
  ·intro hl0
   subst hl0;gi_wp2;go_end0;rw [bD] at wZ;exact ⟨⟨_,rfl⟩,.inl ⟨_,wZ,zi⟩⟩
  ·intro xk xv left' w2 hp pI hg2 hs2 Oh
   have lY:J pre w2:=hJ _ wr w2 (some W.heap.size) zi hg2 (fun r e=>by cases e;exact ⟨aB _,tg.iter_walk⟩);have hpl:pre.length < es.length:=by
    have h1:=wZ.length_eq;have h2:=hp.length_eq;simp at h1 h2;omega
   have wv:=pI;have xA:((pre++[(xk,xv)])++left').Perm es:=by
    rw [bK];exact (List.Perm.append_left pre hp.symm).trans wZ
   obtain ⟨fn,tmps,assign,body,hy,hR⟩:=hY pre (xk,xv) w2 lY hpl;have hleft:left'.length < left.length:=by rw [hp.length_eq];simp
   have HL:=dH hleft;have Vb:=dH tg;have HR:=dH hR;have O5:=dH wv;clear hs2 lY hR tg pI wv hpl hleft hp hg2 zi;gi_wp2;refine HR.o.mono ?_;rintro e W3 (⟨rfl,Dw,lM⟩| ⟨rfl,BQ⟩)
   ·have lJ:=dH (O5.o.of_walks lM)
    have Fw:=dH Dw;have EO:=dH xA;clear Dw lM xA;gi_wp2;go_roundw
    case rel=>exact ⟨left',pre++[(xk,xv)],lJ.o,EO.o,Fw.o⟩
    case measure=>rw [lJ.o.left,Vb.o.left];exact HL.o
   ·gi_wp2
    refine bodyPost_ret (results_none rfl _ _ _) rfl ?_;exact ⟨⟨_,rfl⟩,.inr ⟨_,trivial,BQ⟩⟩
theorem xw (F:Fence) (n:Nat) (sr:F.fn 260) (hro:F.round=none) (hn:1<=n) (Bm b:Nat) (es:List En) (w:World) (h1:Bm < w.heap.size) (Wk:w.cell? ⟨Bm,0,none⟩=some (.map (some b))) (hown:MapE w b es):
  SeqStopsK F n prog 260 #[.pointer (some ⟨Bm,0,none⟩)] (fun x:En=>#[sk x.1]) KeepsWalks (fun ys=>ys.Perm es) (fun _=>True) es.length w:=fun l J Jx W hW hJ _ hY h0=>
 MW F n sr hro hn l Bm b es J Jx hY W hJ ((hW.cell (p:=⟨Bm,0,none⟩) h1).trans Wk) (hown.below hW) h0
theorem keys_any_sb (b:Nat) (w:World):
  Calls prog 188 #[.map (some b)] w fun e w'=>e=.returned (.func (.func 260) #[] #[.pointer (some ⟨w.heap.size,0,none⟩)])/\w'=w.alloc (.cells #[.map (some b)] 122):=by
 go_enter func188,ntmps188;go_wp2_with fail;go_ret;exact ⟨rfl,rfl⟩
theorem Aq (F:Fence) (n:Nat) (Wl:F.fn 318) (sr:F.fn 260) (hro:F.round=none) (hn:3<=n) (Bs b:Nat) (es:List En) (w:World) (Bk:es.length<=1000000) (h1:Bs < w.heap.size) (th:Boxed w Bs 122 (.map (some b))) (hmap:MapE w b es):
  CallsIn F n prog 318 #[.slice none 0 0,.func (.func 260) #[] #[.pointer (some ⟨Bs,0,none⟩)]] w fun e w'=>∃v ys,e=.returned v/\List.Perm ys es/\w'.ownsRow w.heap.size 9 1 v ys.length (strs (ys.map (·.1)))/\Below w.heap.size w w':=by
 have oz:1<=n:=by omega
 obtain ⟨i0,hi,hz0,hz1,hz2⟩:=info_parts info9s;refine callsIn_of_wp_marks func318 rfl Wl ?_ hro;simp only [ntmps318,bG,aQ,ah,Nat.reduceAdd,Nat.reduceSub,cD,cE,cG,cH,af,aq];have bO:=Boxed.new w 99 (.slice none 0 0);have bS:=th.alloc (.cells #[.slice none 0 0] 99);have qK:=dD w (.cells #[.slice none 0 0] 99);have hsz:(w.alloc (.cells #[.slice none 0 0] 99)).heap.size=w.heap.size+1:=by simp
 obtain ⟨W0,GR⟩:=dB (w.alloc (.cells #[.slice none 0 0] 99));rw [<-GR] at bO bS qK hsz;have hm0:=hmap.below qK;have HW:=dH GR;clear GR;gi_wp2;rw [<-HW.o];refine wpIn_rangeFunc_ownG hro oz (gf:=260) (lb:=#[.pointer (some ⟨Bs,0,none⟩)]) rfl sr (enters_of func260 (by kernel_rfl) rfl)
  (xw F (n - 1) sr hro (by omega) Bs b es W0 (by omega) bS.cell hm0) KeepsWalks.trans (fun W l o o' hl h hc hw=>KeepsWalks.putObj _ h hw) (aC _ _) (fun _=>rfl)
  (fun (pre:List En) W=>(∃v,Boxed W w.heap.size 99 v/\W.ownsRow w.heap.size 9 1 v pre.length (strs (pre.map (·.1)))/\True)/\Below w.heap.size w W/\W0.heap.size<=W.heap.size)
  (fun _ _ _=>False)
  (OwnFrom.and (Own.from (holdsRow_own w.heap.size w.heap.size 99 9 1 (fun pre:List En=>pre.length) (fun pre=>strs (pre.map (·.1))) (fun _ _=>True)) _) (OwnFrom.and (ownFrom_below (aB _) (by omega)) (fun _ _ _ _ h hg _=>aK h hg.size)))
  (fun _ _ _ _ _ hs _ _=>hs)
  ⟨⟨_,bO,World.ownsRow_nil _ _ _ _,trivial⟩,qK,aB _⟩
  (fun x=>{ tmps:=#[.slice none 0 0,.func (.func 260) #[] #[.pointer (some ⟨Bs,0,none⟩)],.pointer (some ⟨w.heap.size,0,none⟩),undef,.slice none 0 0,sk x.1,.func (.func 260) #[] #[.pointer (some ⟨Bs,0,none⟩)],sk x.1,undef,undef,undef,undef,undef],defers:=[] })
  ?assign ?body ?done ?stop
 case assign=>
  intro l x W K hK;gi_wp2;exact hK
 case body=>
  rintro l pre x W ⟨⟨v,hv,hrow,_⟩,fq,hge⟩ hlt;have hc:=hv.cell;gi_wp2_with (gi_at_builtin;refine wpListIn_append_own _ rfl _ _ 99 rfl w.heap.size 9 i0 (.string ⟨#[]⟩) 1 16 underlying99 hi hz0 hz1 hz2 rfl (by decide) _ _ _ rfl (hrow.alloc _) ⟨W.heap.size,0,none⟩ 1 1 [sk x.1] rfl rfl (cell_one_new _ _ _) (by simp [Value.oneCell']) (by unfold maxLen;omega) (by omega) (by simp;omega) ?_;intro v' w1 hown' hgrow _;obtain ⟨g',cap',rfl⟩:=ownsRow_succ hown';have Rf:=(KeepsWalks.alloc W _).trans (KeepsWalks.of_grownBy hgrow (nE (hrow.alloc _)));obtain ⟨uG,Ht,hr2,hk2,dS⟩:=hv.appended (by decide) hrow fq.size (aB _) hown' hgrow;have hc1:=uG.cell;have zX:=uG.frozen);exact ⟨hk2.from _,Rf.trans (KeepsWalks.setCell _ _ _),⟨_,Ht,by rw [bV,jS,aO];exact hr2,trivial⟩,fq.trans dS,aK hge hk2.size⟩
 case done=>
  rintro D ys W hD hys ⟨⟨v,hv,hrow,_⟩,hB,_⟩ hK;have hc:=hv.cell;gi_wp2;refine ⟨by simp,.inl ⟨_,_,rfl,run_takeDeferred hK,?_⟩⟩;exact ⟨_,results_tmp rfl _ _ _,v,ys,rfl,hys,ownsRow_putObj hrow (.deferred none) hK rfl,hB.trans (belowK_b (w:=w) (aB _) W D _ _ (by omega) hK rfl rfl)⟩
 case stop=>
  rintro D c pre W _ _ h _;exact h.elim
theorem collect_sb (Bs b:Nat) (es:List En) (w:World) (Bk:es.length<=1000000) (h1:Bs < w.heap.size) (th:Boxed w Bs 122 (.map (some b))) (hmap:MapE w b es):
  Calls prog 256 #[.func (.func 260) #[] #[.pointer (some ⟨Bs,0,none⟩)]] w fun e w'=>∃v ys,e=.returned v/\List.Perm ys es/\w'.ownsRow w.heap.size 9 1 v ys.length (strs (ys.map (·.1)))/\Below w.heap.size w w':=by
 have H:=dH ((callsIn_wide (n:=5)).1 (Aq Fence.wide 5 trivial trivial rfl (by omega) Bs b es w Bk h1 th hmap));clear th hmap;go_enter func256,ntmps256;go_wp2_with fail;refine H.o.mono ?_;rintro e w' ⟨v,ys,rfl,hp,ho,hb⟩;have HP:=dH hp;have HO:=dH ho;have HB:=dH hb;clear hp ho hb;go_wp2_with fail;go_ret;exact ⟨_,ys,rfl,HP.o,HO.o,HB.o⟩
end Ik
end Go.Proofs.YtgdaahffmcfhpaaGreatDoor
