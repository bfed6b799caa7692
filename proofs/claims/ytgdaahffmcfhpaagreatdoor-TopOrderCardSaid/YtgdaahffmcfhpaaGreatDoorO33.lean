/- Lemmas on the way: Ik. -/
import Derived.Test.YtgdaahffmcfhpaaGreatDoorO32
set_option linter.unusedVariables false
set_option maxRecDepth 100000
set_option maxHeartbeats 8000000
namespace Go.Proofs.YtgdaahffmcfhpaaGreatDoor
open aA
open Tryz
namespace Ik
open Go.RowKit Go.Shelf
open Go.ChangeMaps (setBlock)
attribute [local go_sem] Oper.semAt_some dR dO dS dP
abbrev En:=List UInt8×Value
abbrev sk (l:List UInt8):Value:=.string (bs l)
theorem info9s:(prog.info? 9).map (λi=>(i.zero,i.size,i.bytes))=some (some (.string ⟨#[]⟩),1,16):=by kernel_rfl
def iW (l:List (En×Nat)):List (List UInt8×Value×Nat):=l.map λp=>(p.1.1,p.1.2,p.2)
def jE (l:List (En×Nat)):List MapEntry:=(iW l).map (fq sk)
def MapE (w:World) (b:Nat) (es:List En):Prop:=
 ∃(l:List (En×Nat)) (clock:Nat),l.map (·.1)=es/\w.heap[b]? =some (.map (jE l).toArray clock)/\(l.map (·.2)).Nodup/\(∀e∈l,e.2 < clock)
variable {w:World} {b:Nat} {es:List En}
theorem MapE.lt (h:MapE w b es):b < w.heap.size:=by
 obtain ⟨l,c,_,hb,_⟩:=h;exact gh hb
theorem MapE.below{w':World} (h:MapE w b es) (hb:Below w w w'):MapE w' b es:=by
 have hl:=h.lt;obtain ⟨l,c,h1,h2,rest⟩:=h;exact ⟨l,c,h1,(hb.block b hl).trans h2,rest⟩
theorem MapE.nil_ (h:w.heap[b]? =some (.map #[] 0)):MapE w b []:=⟨[],0,rfl,h,List.Pairwise.nil,by simp⟩
theorem MapE.one {k:List UInt8} {v:Value} (h:w.heap[b]? =some (.map #[{ key:=.string (bs k),val:=v,born:=0 }] 1)):MapE w b [(k,v)]:=⟨[((k,v),0)],1,rfl,h,by simp,by simp⟩
def RngE (w:World) (b r:Nat) (es rest:List En):Prop:=
 ∃(l:List (En×Nat)) (clock:Nat) (seen:Array Nat) (c0:Nat),l.map (·.1)=es/\w.heap[b]? =some (.map (jE l).toArray clock)/\(l.map (·.2)).Nodup/\(∀e∈l,e.2 < clock)/\
  w.heap[r]? =some (.mapIter (some b) clock seen c0)/\clock<=c0/\(l.filter λe=>!seen.contains e.2).map (·.1)=rest
section
variable {w w':World} {b r:Nat} {es rest:List En}
theorem RngE.map (h:RngE w b r es rest):MapE w b es:=by
 obtain ⟨l,c,seen,c0,h1,h2,h3,h4,_⟩:=h;exact ⟨l,c,h1,h2,h3,h4⟩
theorem RngE.lt (h:RngE w b r es rest):r < w.heap.size:=by
 obtain ⟨l,c,seen,c0,_,_,_,_,hb,_⟩:=h;exact gh hb
theorem RngE.heap (h:RngE w b r es rest) (hb:w'.heap[b]? =w.heap[b]?) (hr:w'.heap[r]? =w.heap[r]?):RngE w' b r es rest:=by
 obtain ⟨l,c,seen,c0,h1,h2,h3,h4,h6,rest⟩:=h;exact ⟨l,c,seen,c0,h1,hb.trans h2,h3,h4,hr.trans h6,rest⟩
theorem RngE.grown {row:Option Nat} (h:RngE w b r es rest) (hb:w.grownBy w' row) (h1:some b≠row) (h2:some r≠row):RngE w' b r es rest:=h.heap (hb.block b h.map.lt h1) (hb.block r h.lt h2)
theorem RngE.below (h:RngE w b r es rest) (hb:Below w w w'):RngE w' b r es rest:=h.heap (hb.block b h.map.lt) (hb.block r h.lt)
theorem RngE.alloc (h:RngE w b r es rest) (o:Obj):RngE (w.alloc o) b r es rest:=h.below ((aC _ w).alloc (aB _) o)
theorem lE (l:List (En×Nat)) (seen:Array Nat):(leftOf (jE l).toArray seen).toList=jE (l.filter λe=>!seen.contains e.2):=by
 unfold leftOf jE iW;simp only [List.map_map,List.filter_toArray,List.filter_map];rfl
theorem rW {l:List (En×Nat)} {e:MapEntry} (h:e∈jE l):∃p∈l,e=fq sk (p.1.1,p.1.2,p.2):=by
 unfold jE iW at h;rw [List.map_map] at h;obtain ⟨p,hp,rfl⟩:=aU.1 h;exact ⟨p,hp,rfl⟩
theorem wk (l:List (En×Nat)):(jE l).map (·.born)=l.map (·.2):=by
 unfold jE iW;simp [fq,Function.comp_def]
theorem mc {seen:Array Nat} {p:En×Nat}:∀{l:List (En×Nat)},(l.map (·.2)).Nodup->p∈l->seen.contains p.2=false->
  (l.filter λx=>!seen.contains x.2).Perm (p :: (l.filter λx=>!(seen.push p.2).contains x.2))
 | [],_,h,_=>by cases h
 |a :: r,hn,h,hs=>by
  rw [bB,List.nodup_cons] at hn;obtain ⟨qX,hn2⟩:=hn;by_cases ha:a=p
  ·subst ha
   have hr:r.filter (λx=>!(seen.push a.2).contains x.2)=r.filter (λx=>!seen.contains x.2):=by
    apply List.filter_congr;intro x hx;have hne:x.2≠a.2:=λe'=>qX (e' ▸ aU.2 ⟨x,hx,rfl⟩)
    simp [hne]
   have h1:(!(seen.push a.2).contains a.2)=false:=by simp
   have h2:(!seen.contains a.2)=true:=by rw [hs];rfl
   rw [bu,bu,h1,h2,hr];simp
  ·have he:p∈r:=by rcases aQ.1 h with h|h;exact absurd h.symm ha;exact h
   have ih:=mc hn2 he hs;have hne:a.2≠p.2:=λe'=>qX (e' ▸ aU.2 ⟨p,he,rfl⟩)
   have h1:(!(seen.push p.2).contains a.2)=(!seen.contains a.2):=by simp [hne]
   rw [bu,bu,h1];cases (!seen.contains a.2) with
   |false=>simpa using ih
   |true=>
    simp only [if_true];exact (ih.cons a).trans (List.Perm.swap _ _ _)
theorem RngE.left (h:RngE w b r es rest):w.rangeLeft b r=rest.length:=by
 obtain ⟨l,c,seen,c0,_,hb,_,_,hr,_,hc⟩:=h;unfold World.rangeLeft;rw [hb,hr];simp only;rw [<-hc,bJ,<-cC,lE];simp [jE,iW]
variable {P:Program}
theorem RngE.next (h:RngE w b r es rest) (ty:TypeId):
  (rest=[]/\(Instr.next (.pointer (some r)) false ty).run P w=.ok (.tuple #[false]) w)\/
  ∃n rest' w',rest.Perm (n :: rest')/\(Instr.next (.pointer (some r)) false ty).run P w=.ok (.tuple #[true,sk n.1,n.2]) w'/\RngE w' b r es rest'/\w.grownBy w' (some r)/\w'.heap.size=w.heap.size/\
   (Instr.entry (.pointer (some r))).run P w'=.ok (.tuple #[sk n.1,n.2]) w':=by
 obtain ⟨l,c,seen,c0,hl,hb,hnd,hlt,hr,hle,hc⟩:=h;have vQ:b≠r:=by rintro rfl;rw [hb] at hr;cases hr
 have hold:∀x∈(jE l).toArray.toList,x.born < c:=λx hx=>by
  obtain ⟨p,hp,rfl⟩:=rW (by simpa using hx);exact hlt p hp
 rcases run_next_at (P:=P) w ty r b c c0 seen (jE l).toArray c hr hb hold hle with ⟨h0,hrun⟩| ⟨e,he,w1,hal,hrun⟩
 ·have hnil:l.filter (λx=>!seen.contains x.2)=[]:=by
   have h1:=lE l seen;rw [az (show (leftOf (jE l).toArray seen).toList.length=0 by rw [cC];exact h0)] at h1;have:=congrArg List.length h1;simp only [jE,iW,bE,bJ] at this;exact az this.symm
  rw [hnil] at hc;exact .inl ⟨hc.symm,hrun⟩
 ·rw [lE] at he
  obtain ⟨p,hp,rfl⟩:=rW he;obtain ⟨hpl,hps⟩:=List.mem_filter.1 hp;have Hu:seen.contains p.2=false:=by simpa using hps
  have XN:=mc hnd hpl Hu;have Eu:w1.heap[r]? =some (.mapIter (some b) c seen c0):=by rcases hal with rfl|rfl <;> exact hr
  have gw:=MapKept.heap_set (o':=.mapIter (some b) c (seen.push p.2) c) Eu;have hb':(setBlock w1 r (.mapIter (some b) c (seen.push p.2) c)).heap[b]? =some (.map (jE l).toArray c):=(gw.2 b (λe1=>vQ e1)).trans (by rcases hal with rfl|rfl <;> exact hb);refine .inr ⟨p.1,(l.filter λx=>!(seen.push p.2).contains x.2).map (·.1),_,?_,hrun,⟨l,c,seen.push p.2,c,hl,hb',hnd,hlt,gw.1,aB _,rfl⟩,?_,?_,?_⟩
  ·rw [<-hc]
   exact XN.map _
  ·have hg1:w.grownBy w1 (some r):=by rcases hal with rfl|rfl;exact dz _ _;exact kQ (dz _ _)
   exact fJ hg1 ⟨rfl,rfl,rfl,by simp [setBlock],λi _ hne=>gw.2 i (λe=>hne (by rw [e]))⟩
  ·have:w1.heap.size=w.heap.size:=by rcases hal with rfl|rfl <;> rfl
   rw [<-this];simp [setBlock]
  ·exact run_entry_at (P:=P) _ r b c seen (jE l).toArray c _ gw.1 hb' (by
    have h2:fq sk (p.1.1,p.1.2,p.2)∈jE l:=by unfold jE iW;exact aU.2 ⟨_,aU.2 ⟨p,hpl,rfl⟩,rfl⟩
    simpa using h2) (by
    have:=wk l;simpa [this] using hnd)
theorem MapE.range (h:MapE w b es) (mt kt et:TypeId) (hm:P.underlying mt=some (.map kt et)):
  ∃w',(Instr.range mt (.map (some b))).run P w=.ok (.pointer (some w)) w'/\RngE w' b w es es/\Below w w w'/\w'.heap.size=w.heap.size+1:=by
 have hlt:=h.lt;obtain ⟨l,c,hl,hb,hnd,hlt'⟩:=h;refine ⟨_,run_range_map w mt kt et b _ _ hm hb,⟨l,c,#[],c,hl,(bM w _ b hlt).trans hb,hnd,hlt',heap_alloc_new w _,aB _,?_⟩,(aC _ w).alloc (aB _) _,by simp⟩;rw [<-hl];congr 1;simp
end
theorem RngE.of_walks {w w':World} {b r:Nat} {es rest:List En} (h:RngE w b r es rest) (k:KeepsWalks w w'):RngE w' b r es rest:=by
 obtain ⟨l,c,seen,c0,h1,h2,h3,h4,h6,h7⟩:=h;exact ⟨l,c,seen,c0,h1,k.same b _ h2 rfl,h3,h4,k.same r _ h6 rfl,h7⟩
theorem RngE.iter_walk {w:World} {b r:Nat} {es rest:List En} (h:RngE w b r es rest):∃o:Obj,w.heap[r]? =some o/\o.isWalk=true:=by
 obtain ⟨l,c,seen,c0,h1,h2,h3,h4,h6,h7⟩:=h;exact ⟨_,h6,rfl⟩
section
variable {F:Fence} {n:Nat} (w:World) {ops:Array Oper} {rest:List Oper} {o:Oper} {a:Act} {Q:Exit->Act->World->Prop}
theorem vG (hg:o.guard=none) (m:Operand) (mt kt et:TypeId) (UG:prog.underlying mt=some (.map kt et)) (hop:o.op=Op.range mt m) (b:Nat) (es:List En) (hm:a.eval m=.map (some b)) (hown:MapE w b es)
  (hK:∀w',RngE w' b w es es->Below w w w'->w'.heap.size=w.heap.size+1->wpListIn F n prog ops Q rest (a.put o.dst (.pointer (some w))) w'):
  wpListIn F n prog ops Q (o :: rest) a w:=by
 refine wpListIn_plain hg λK' BC=>?_
 obtain ⟨w',hrun,r1,r2,r3⟩:=hown.range mt kt et UG;unfold Oper.wpIn;refine ⟨?_,?_⟩
 ·simp [Oper.about,hop]
 ·rw [Oper.semAt_plain F _ _ (by rw [hop];intro c yq;cases yq)]
  simp [execOp,hop,hm,hrun,Result.andThen];exact BC _ _ (hK w' r1 r2 r3)
theorem xd (hg:o.guard=none) (it:Operand) (hop:o.op=Op.next it false) (b r:Nat) (es left:List En) (hit:a.eval it=.pointer (some r)) (h:RngE w b r es left)
  (hDone:left=[]->wpListIn F n prog ops Q rest (a.put o.dst (.tuple #[false])) w)
  (hMore:∀x left' w',left.Perm (x :: left')->RngE w' b r es left'->w.grownBy w' (some r)->w'.heap.size=w.heap.size->(Instr.entry (.pointer (some r))).run prog w'=.ok (.tuple #[sk x.1,x.2]) w'->wpListIn F n prog ops Q rest (a.put o.dst (.tuple #[true,sk x.1,x.2])) w'):
  wpListIn F n prog ops Q (o :: rest) a w:=by
 refine wpListIn_plain hg λK' BC=>?_
 unfold Oper.wpIn;refine ⟨by simp [Oper.about,hop],?_⟩;rw [Oper.semAt_plain F _ _ (by rw [hop];intro c yq;cases yq)];rcases h.next (P:=prog) o.type with ⟨h0,hrun⟩| ⟨x,left',w',hp,hrun,FZ,qK,hsz,ME⟩
 ·simp [execOp,hop,hit,hrun,Result.andThen]
  exact BC _ _ (hDone h0)
 ·simp [execOp,hop,hit,hrun,Result.andThen]
  exact BC _ _ (hMore x left' w' hp FZ qK hsz ME)
end
def J1 (g:Nat):Prop:=∀(F:Fence) (n:Nat) (_:F.fn g) (_:F.round=none) (_:1<=n) (l Bm b:Nat) (es:List En) (J Jx:List En->World->Prop)
  (_:∀pre x W,J pre W->pre.length < es.length->YieldAt F (n - 1) prog l #[sk x.1] W λe W'=>
   (e=.returned true/\J (pre++[x]) W'/\KeepsWalks W W')\/(e=.returned false/\Jx (pre++[x]) W'))
  (W:World) (_:AbidesFrom W.heap.size J) (_:W.cell? Bm=some (.map (some b))) (_:MapE W b es) (_:J [] W),
  CallsIn F n prog g #[.func (.yield l) #[] #[],Qp Bm] W λe W'=>(∃v,e=.returned v)/\
   ((∃ys,ys.Perm es/\J ys W')\/(∃pre:List En,True/\Jx pre W'))
theorem tQ:J1 391/\J1 258/\J1 260:=by
 refine ⟨?a,?b,?c⟩ <;> intro F n FJ hro hn l Bm b es J Jx hY W hJ hm hown h0
 case' a=>refine callsIn_of_wp func391 rfl FJ ?_ hro;simp only [ntmps391]
 case' b=>refine callsIn_of_wp func258 rfl FJ ?_ hro;simp only [ntmps258]
 case' c=>refine callsIn_of_wp func260 rfl FJ ?_ hro;simp only [ntmps260]
 all_goals
  simp only [bW,aY,bE,Nat.reduceAdd,Nat.reduceSub,Array.replicate_succ,Array.replicate_zero,List.push_toArray,List.append_toArray,ak,bC];gi_wp2_with (first
   |(gi_at_range;refine vG _ rfl _ _ _ _ (by first|exact underlying191|exact underlying225|exact underlying122) rfl b es rfl hown ?_;intro w0 YQ UZ hs0)
   |gi_in)
  go_frame;gi_loopw [3] (λ_ wr=>∃(left pre:List En),RngE wr b W es left/\(pre++left).Perm es/\J pre wr)
   (λ_ wr=>wr.rangeLeft b W)
  case atStart=>exact ⟨es,[],YQ,List.Perm.refl _,hJ [] W w0 none h0 (fC UZ none) (λr e=>by cases e)⟩
  case round=>
   obtain ⟨left,pre,FZ,JX,Mm⟩:=hrel;gi_wp2_with (first
    |(gi_at_next;refine xd _ rfl _ rfl b W es left rfl FZ ?_ ?_)
    |gi_in)
   ·intro hl0
    subst hl0;gi_wp2;go_end0;rw [bG] at JX;exact ⟨⟨_,rfl⟩,.inl ⟨_,JX,Mm⟩⟩
   ·intro xk xv left' w2 hp zl hg2 hs2 ME
    have oQ:J pre w2:=hJ _ wr w2 (some W.heap.size) Mm hg2 (λr e=>by cases e;exact ⟨aB _,FZ.iter_walk⟩);have hpl:pre.length < es.length:=by
     have h1:=JX.length_eq;have h2:=hp.length_eq;simp at h1 h2;omega
    have QZ:=zl;have Qa:((pre++[(xk,xv)])++left').Perm es:=by
     rw [bx];exact (List.Perm.append_left pre hp.symm).trans JX
    obtain ⟨fn,tmps,assign,body,hy,hR⟩:=hY pre (xk,xv) w2 oQ hpl;have hleft:left'.length < left.length:=by rw [hp.length_eq];simp
    have HL:=dL hleft;have HRg:=dL FZ;have HR:=dL hR;have XQ:=dL QZ;clear hs2 oQ hR FZ zl QZ hpl hleft hp hg2 Mm;gi_wp2;refine HR.o.mono ?_;rintro e W3 (⟨rfl,QY,oD⟩| ⟨rfl,Qy⟩)
    ·have qB:=dL (XQ.o.of_walks oD)
     have QC:=dL QY;have MZ:=dL Qa;clear QY oD Qa;gi_wp2;go_roundw
     case rel=>exact ⟨left',pre++[(xk,xv)],qB.o,MZ.o,QC.o⟩
     case measure=>rw [qB.o.left,HRg.o.left];exact HL.o
    ·gi_wp2
     refine bodyPost_ret (results_none rfl _ _ _) rfl ?_;exact ⟨⟨_,rfl⟩,.inr ⟨_,trivial,Qy⟩⟩
def tT (g:Nat):Prop:=∀(F:Fence) (n:Nat) (_:F.fn g) (_:F.round=none) (_:1<=n) (Bm b:Nat) (es:List En) (w:World) (_:Bm < w.heap.size) (_:w.cell? Bm=some (.map (some b))) (_:MapE w b es),
  SeqStopsK F n prog g #[Qp Bm] (λx:En=>#[sk x.1]) KeepsWalks (λys=>ys.Perm es) (λ_=>True) es.length w
theorem qv {g:Nat} (k:J1 g):tT g:=λF n FJ hro hn Bm b es w h1 hBm hown l J Jx W hW hJ _ hY h0=>
 k F n FJ hro hn l Bm b es J Jx hY W hJ ((hW.cell (p:=Bm) h1).trans hBm) (hown.below hW) h0
def pZ (f g t:Nat):Prop:=∀(b:Nat) (w:World),
  Calls prog f #[.map (some b)] w λe w'=>e=.returned (.func (.func g) #[] #[Qp w])/\w'=w.alloc (.cells #[.map (some b)] t)
theorem nk:pZ 352 391 191/\pZ 185 258 225/\pZ 188 260 122:=by
 refine ⟨?a,?b,?c⟩ <;> intro b w
 case' a=>go_enter func352,ntmps352
 case' b=>go_enter func185,ntmps185
 case' c=>go_enter func188,ntmps188
 all_goals
  go_wp2_with fail;go_ret;exact ⟨rfl,rfl⟩
theorem keys_any_ss:pZ 352 391 191:=nk.1
theorem keys_any_si:pZ 185 258 225:=nk.2.1
theorem keys_any_sb:pZ 188 260 122:=nk.2.2
theorem LC {g ty:Nat} (hg:∀args w,(callFunc g args).run prog w=.ok (.enter g args) w) (hst:tT g) (F:Fence) (n:Nat) (h54:F.fn 318) (FJ:F.fn g) (hro:F.round=none) (hn:3<=n) (Bs b:Nat) (es:List En) (w:World) (Ml:es.length<=1000000) (h1:Bs < w.heap.size) (FY:Boxed w Bs ty (.map (some b))) (hmap:MapE w b es):
  CallsIn F n prog 318 #[(),.func (.func g) #[] #[.pointer (some ⟨Bs,0,none⟩)]] w λe w'=>∃v ys,e=.returned v/\List.Perm ys es/\w'.ownsRow w.heap.size 9 1 v ys.length (strs (ys.map (·.1)))/\Below w.heap.size w w':=by
 have qX:1<=n:=by omega
 obtain ⟨i0,hi,hz0,hz1,hz2⟩:=info_parts info9s;refine callsIn_of_wp_marks func318 rfl h54 ?_ hro;simp only [ntmps318,bW,aY,bE,Nat.reduceAdd,Nat.reduceSub,Array.replicate_succ,Array.replicate_zero,List.push_toArray,List.append_toArray,ak,bC];have bO:=Boxed.new w 99 (.slice none 0 0);have bS:=FY.alloc (.cells #[()] 99);have yS:=dH w (.cells #[()] 99);have hsz:(w.alloc (.cells #[()] 99)).heap.size=w.heap.size+1:=by simp
 obtain ⟨W0,Yh⟩:=dG (w.alloc (.cells #[()] 99));rw [<-Yh] at bO bS yS hsz;have hm0:=hmap.below yS;have HW:=dL Yh;clear Yh;gi_wp2;rw [<-HW.o];refine wpIn_rangeFunc_ownG hro qX (gf:=g) (lb:=#[.pointer (some Bs)]) rfl FJ hg
  (hst F (n - 1) FJ hro (by omega) Bs b es W0 (by omega) bS.cell hm0) KeepsWalks.trans (λW l o o' hl h hc hw=>KeepsWalks.putObj _ h hw) (aC _ _) (λ_=>rfl)
  (λ(pre:List En) W=>(∃v,Boxed W w.heap.size 99 v/\W.ownsRow w.heap.size 9 1 v pre.length (strs (pre.map (·.1)))/\True)/\Below w.heap.size w W/\W0.heap.size<=W.heap.size)
  (λ_ _ _=>False)
  (OwnFrom.and (Own.from (holdsRow_own w.heap.size w.heap.size 99 9 1 (λpre:List En=>pre.length) (λpre=>strs (pre.map (·.1))) (λ_ _=>True)) _) (OwnFrom.and (ownFrom_below (aB _) (by omega)) (λ_ _ _ _ h hg _=>aI h hg.size)))
  (λ_ _ _ _ _ hs _ _=>hs)
  ⟨⟨_,bO,World.ownsRow_nil _ _ _ _,trivial⟩,yS,aB _⟩
  (λx=>{ tmps:=#[.slice none 0 0,.func (.func g) #[] #[Qp Bs],.pointer (some ⟨w.heap.size,0,none⟩),undef,.slice none 0 0,sk x.1,.func (.func g) #[] #[Qp Bs],sk x.1,undef,undef,undef,undef,undef],defers:=[] })
  ?assign ?body ?done ?stop
 case assign=>
  intro l x W K hK;gi_wp2;exact hK
 case body=>
  rintro l pre x W ⟨⟨v,hv,hrow,_⟩,gH,hge⟩ hlt;have hc:=hv.cell;gi_wp2_with (gi_at_builtin;refine wpListIn_append_own _ rfl _ _ 99 rfl w.heap.size 9 i0 (.string ⟨#[]⟩) 1 16 underlying99 hi hz0 hz1 hz2 rfl (by decide) _ _ _ rfl (hrow.alloc _) ⟨W.heap.size,0,none⟩ 1 1 [sk x.1] rfl rfl (cell_one_new _ _ _) (by simp [Value.oneCell']) (by unfold maxLen;omega) (by omega) (by simp;omega) ?_;intro v' w1 hown' hgrow _;obtain ⟨g',cap',rfl⟩:=ownsRow_succ hown';have hkw:=(KeepsWalks.alloc W _).trans (KeepsWalks.of_grownBy hgrow (xb (hrow.alloc _)));obtain ⟨CR,RI,hr2,hk2,dY⟩:=hv.appended (by decide) hrow gH.size (aB _) hown' hgrow;have hc1:=CR.cell;have Cp:=CR.frozen);exact ⟨hk2.from _,hkw.trans (KeepsWalks.setCell _ _ _),⟨_,RI,by rw [bQ,oa,aP];exact hr2,trivial⟩,gH.trans dY,aI hge hk2.size⟩
 case done=>
  rintro D ys W hD hys ⟨⟨v,hv,hrow,_⟩,hB,_⟩ hK;have hc:=hv.cell;gi_wp2;refine ⟨by simp,.inl ⟨_,_,rfl,run_takeDeferred hK,?_⟩⟩;exact ⟨_,results_tmp rfl _ _ _,v,ys,rfl,hys,ownsRow_putObj hrow (.deferred none) hK rfl,hB.trans (belowK_b (w:=w) (aB _) W D _ _ (by omega) hK rfl rfl)⟩
 case stop=>
  rintro D c pre W _ _ h _;exact h.elim
def Collect (g ty:Nat):Prop:=∀(Bs b:Nat) (es:List En) (w:World) (_:es.length<=1000000) (_:Bs < w.heap.size) (_:Boxed w Bs ty (.map (some b))) (_:MapE w b es),
  Calls prog 256 #[.func (.func g) #[] #[.pointer (some ⟨Bs,0,none⟩)]] w λe w'=>∃v ys,e=.returned v/\List.Perm ys es/\w'.ownsRow w 9 1 v ys.length (strs (ys.map (·.1)))/\Below w w w'
theorem collect {g ty:Nat} (hg:∀args w,(callFunc g args).run prog w=.ok (.enter g args) w) (hst:tT g) (FJ:Fence.wide.fn g):Collect g ty:=by
 intro Bs b es w Ml h1 FY hmap;have H:=dL ((callsIn_wide (n:=5)).1 (LC hg hst Fence.wide 5 trivial FJ rfl (by omega) Bs b es w Ml h1 FY hmap));clear FY hmap;go_enter func256,ntmps256;go_wp2_with fail;refine H.o.mono ?_;rintro e w' ⟨v,ys,rfl,hp,ho,hb⟩;have HP:=dL hp;have HO:=dL ho;have HB:=dL hb;clear hp ho hb;go_wp2_with fail;go_ret;exact ⟨_,ys,rfl,HP.o,HO.o,HB.o⟩
theorem collect_ss:Collect 391 191:=collect (enters_of func391 (by kernel_rfl) rfl) (qv tQ.1) trivial
theorem collect_si:Collect 258 225:=collect (enters_of func258 (by kernel_rfl) rfl) (qv tQ.2.1) trivial
theorem collect_sb:Collect 260 122:=collect (enters_of func260 (by kernel_rfl) rfl) (qv tQ.2.2) trivial
end Ik
end Go.Proofs.YtgdaahffmcfhpaaGreatDoor
