/- Lemmas on the way: Ad Ae Af. -/
import Derived.Test.YtgdaahffmcfhpaaGreatDoorO28
import Derived.Test.YtgdaahffmcfhpaaGreatDoorO30
set_option maxRecDepth 100000
set_option maxHeartbeats 8000000
namespace Go.Proofs.YtgdaahffmcfhpaaGreatDoor
open aA
open Tryz
section
open Go.RowKit
attribute [local go_sem] dR dO dS dP
def qU (x:dX) (d:Int):List Int:=[x.st.1,x.st.2,x.seq,x.kind,x.node.1,x.node.2,d,x.par.1,x.par.2]
def vE (x:dX) (d:Int) (k:Nat):List UInt8:=((qU x d).take k).flatMap Pt.Cd.numL
variable {q k n g cap:Nat}
theorem Ae(x:dX) (d:Int) (h:k < (qU x d).length):vE x d (k+1)=vE x d k++Pt.Cd.numL (qU x d)[k]:=by
 unfold vE;rw [ay h,List.flatMap_append,List.flatMap_singleton]
theorem EG (x:dX) (d:Int):∀k,(vE x d k).length<=9*k
 |0=>by simp [vE]
 |k+1=>by
  have ih:=EG x d k;rcases aD k (qU x d).length with h|h
  ·rw [Ae x d h,aP];have:=eN (qU x d)[k];omega
  ·have:vE x d (k+1)=vE x d k:=by unfold vE;rw [af (by omega),af (by omega)]
   rw [this];omega
theorem OI (x:dX) (r:List UInt8):vE x (zN x.dir) 9++(Pt.Cd.textL x.nm++(Pt.Cd.textL x.mf++r))=GU x r:=by
 simp [vE,qU,GU,oo]
variable {x:dX}
theorem OJ (h:FQ x) {d:Int} (hd:oS d):∀n∈qU x d,oS n:=by
 intro n hn;simp only [qU,aQ,bH,or_false] at hn;rcases hn with rfl|rfl|rfl|rfl|rfl|rfl|rfl|rfl|rfl
 ·exact h.st.1
 ·exact h.st.2
 ·exact h.seq
 ·exact h.kind
 ·exact h.node.1
 ·exact h.node.2
 ·exact hd
 ·exact h.par.1
 ·exact h.par.2
def EH (l:List Int):Array Value:=(l.map (Value.int .i64)).toArray
structure mw (q:Nat) (x:dX) (w:World):Prop where
 blk:Blk w q 32 (oc x).toArray
variable {w:World}
theorem mw.cells (h:mw q x w):w.cell? (Qc q 9)=x.nm/\w.cell? (Qc q 10)=x.mf:=⟨h.blk.cell 9,h.blk.cell 10⟩
theorem mw.drew {q:Nat} {x:dX} {w:World} (h:mw q x w):mw q x w.drew:=⟨h.blk.drew⟩
theorem mw.below {q B:Nat} {x:dX} {w w':World} (h:mw q x w) (hb:Below B w w') (hq:q < B):mw q x w':=⟨h.blk.below hb hq⟩
theorem mw.lt {q:Nat} {x:dX} {w:World} (h:mw q x w):q < w.heap.size:=h.blk.lt
theorem mw.later {w':World} (h:mw q x w) (hb:Below w w w'):mw q x w':=h.below hb h.lt
def aad (dr:Bool):Prop:=∀(x:dX) (_:FQ x) (_:sG x=0) (_:x.dir=dr) (w:World),
  Calls prog 198 #[ov x] w (dM w (.tuple #[(gy x),qn]))
theorem Iz:aad false/\aad true:=by
 refine ⟨?a,?b⟩ <;> intro x hx hrc CZ w
 case' b=>obtain ⟨dv,HDV⟩:∃dv:Int,dK (dv=1):=⟨_,dL rfl⟩
 case' a=>obtain ⟨dv,HDV⟩:∃dv:Int,dK (dv=0):=⟨_,dL rfl⟩
 all_goals
  have HE:dK (vE x dv 9++(Pt.Cd.textL x.nm++(Pt.Cd.textL x.mf++[]))=gy x):=dL (by have:=OI x [];rw [CZ] at this;rw [HDV.o];exact this);have HOK:=dL (OJ hx (d:=dv) (by rw [HDV.o];unfold oS;omega));have JR:(qU x dv).length=9:=rfl;obtain ⟨ns,hns⟩:=dG (qU x dv);have aeI:=dL (show ns.length=9 by rw [hns];rfl);obtain ⟨EK,hEK⟩:∃EK:Nat->List UInt8,EK=vE x dv:=⟨_,rfl⟩;have HSU:dK (∀k (h:k < ns.length),EK (k+1)=EK k++Pt.Cd.numL ns[k]):=dL (by rw [hns,hEK];exact λk h=>Ae x dv h);have HEL:dK (∀k,(EK k).length<=9*k):=dL (by rw [hEK];exact EG x dv);have HE0:dK (EK 0=[]):=dL (by rw [hEK];rfl);rw [<-hns] at HOK;rw [<-hEK] at HE;have hnm:=hx.nm;have Z5:=hx.mf;have HR:=dL (λw=>lM x (by omega) (by omega) w);rw [hrc] at HR;have HNS:=dL hns;obtain ⟨q0,Mi⟩:=dG w.heap.size;obtain ⟨w1,hw1⟩:=dG (w.alloc (.cells #[x.st.1,x.st.2,x.seq,x.kind,x.node.1,x.node.2,x.dir,x.par.1,x.par.2,x.nm,x.mf] 32));have M3:mw q0 x w1:=⟨by rw [hw1,Mi];exact Blk.new w 32 (oc x).toArray⟩;have dV:Below w w w1:=by rw [hw1];exact (aC _ w).alloc (aB _) _
  have c0:=M3.blk.cell 0;have c1:=M3.blk.cell 1;have c2:=M3.blk.cell 2;have c3:=M3.blk.cell 3;have c4:=M3.blk.cell 4;have c5:=M3.blk.cell 5;have c6:=M3.blk.cell 6;have c7:=M3.blk.cell 7;have c8:=M3.blk.cell 8;have c9:=M3.blk.cell 9;have jX:=M3.blk.cell 10;simp [oc] at c0 c1 c2 c3 c4 c5 c6 c7 c8 c9 jX;have yT:=dL hw1;have XH:=dL Mi;have Lx:=dL M3;have eR:=dL dV;have agH:w.heap.size<=q0:=by omega
  have aeJ:=dL CZ;clear hx hrc hns hEK Mi hw1 M3 dV CZ JR;unfold ov at HR ⊢;go_enter func198,ntmps198;go_upto_region 1 with (fail);rw [<-yT.o,<-XH.o];go_wp2_with fail;refine (HR.o _).mono ?_;rintro e w2 ⟨rfl,dY⟩;have eA:=dJ eR dY;have Tv:=Lx.o.later dY;clear dY c0 c1 c2 c3 c4 c5 c6 c7 c8 c9 jX HR;have c6:=Tv.blk.cell 6;simp [oc] at c6;rw [aeJ.o] at c6;obtain ⟨UY,Qz⟩:=dG (w2.alloc (.cells #[.pointer none,()] 261));have Tw:Below w2 w2 UY:=by rw [Qz];exact (aC _ w2).alloc (aB _) _
  have M4:=Tv.later Tw;have c0:=M4.blk.cell 0;have c1:=M4.blk.cell 1;have c2:=M4.blk.cell 2;have c3:=M4.blk.cell 3;have c4:=M4.blk.cell 4;have c5:=M4.blk.cell 5;have c7:=M4.blk.cell 7;have c8:=M4.blk.cell 8;simp [oc] at c0 c1 c2 c3 c4 c5 c7 c8;have aeK:=dL Qz;have kE:=Pt.Bld.fresh w2;rw [<-Qz] at kE;obtain ⟨b0,hb0⟩:=dG w2.heap.size;have hsz:UY.heap.size=b0+1:=by rw [Qz,hb0];exact ai _
  obtain ⟨w3,jD⟩:=dG (UY.alloc (.cells #[x.st.1,x.st.2,x.seq,x.kind,x.node.1,x.node.2,dv,x.par.1,x.par.2] 3));have Me:=HDV.o;clear HDV;subst Me;have wC:Below UY UY w3:=by rw [jD];exact (aC _ UY).alloc (aB _) _
  have abW:Pt.Bld w3 b0 b0 (EK 0):=by
   rw [HE0.o,hb0];exact Pt.Bld.below kE wC
  have hI3:Blk w3 (b0+1) 3 (EH ns):=by
   have:=Blk.new UY 3 (EH ns);rw [hsz] at this;rw [jD,HNS.o];rw [HNS.o] at this;exact this
  have HSZ:=dL hsz;have qB:=dL (M4.later wC);have FV:q0 < b0:=by rw [hb0];exact Tv.lt
  have rB:=dL jD;have nC:=dL hb0;have oP:=dL abW;have rC:=dL hI3;have hs3:b0<=w3.heap.size:=by have:=wC.size;omega
  have eC:=dL ((eA.o.trans (Tw.mono eA.o.size)).trans (wC.mono (aI eA.o.size Tw.size)));clear kE jD hb0 hsz wC abW hI3 M4 Lx eR Qz Tw Tv;go_upto_region 8 with (fail);rw [<-aeK.o,<-nC.o];clear c6;go_wp2_with fail;rw [HSZ.o,<-rB.o];go_loopw [41] (λi wr=>∃k:Nat,k<=9/\i=.int .i64 k/\dK (Pt.Bld wr b0 b0 (EK k))/\dK (Blk wr (b0+1) 3 (EH ns))/\dK (mw q0 x wr)/\dK (Below w w wr)/\b0<=wr.heap.size) (λi _=>9 - (intOf i).toNat)
  case atStart=>exact ⟨0,by omega,rfl,oP,rC,qB,eC,hs3⟩
  case round=>
   obtain ⟨k,hk,rfl,pM,hIr,hKr,vQ,Je⟩:=hrel;rcases aD k 9 with hlt|hge
   ·have hkl:k < ns.length:=by have:=aeI.o;omega
    have sN:=hIr.o.cell k;unfold EH at sN;simp [hkl] at sN;have hok:=HOK.o ns[k] (aa hkl);have Hz:=dL (HSU.o k hkl);have hnl:=eN ns[k];have hel:=HEL.o k;obtain ⟨m,hm⟩:=dG (ns[k]);rw [<-hm] at sN hok Hz hnl;have hki:(k:Int) < 9:=by omega
    clear hm;go_wp2_with fail;refine (Pt.Cd.num_c m _ hok).mono ?_;rintro e v1 ⟨rfl,dV⟩;have aeL:=dL (Pt.Bld.below pM.o dV);have aeM:=dL (hIr.o.below dV hIr.o.lt);have abX:=dL (hKr.o.later dV);have aeN:=dJ vQ dV;have abY:b0<=v1.heap.size:=aI Je dV.size;clear dV pM hIr hKr vQ;go_wp2_with fail;refine (Pt.write_any b0 b0 (EK k) (Pt.Cd.numL m) v1 aeL.o (by omega) abY).mono ?_;rintro e v2 ⟨rfl,kE,dY,adI⟩;have TY:dK (Pt.Bld v2 b0 b0 (EK (k+1))):=dL (by rw [Hz.o];exact kE);have aeO:dK (Blk v2 (b0+1) 3 (EH ns)):=dL (adI (b0+1) _ aeM.o (by simp) (by intro c fz e;cases e));have aeP:=dL (abX.o.below dY FV);have aeQ:=dL (aeN.o.trans (dY.mono (by have:=abX.o.lt;omega)));have aeR:b0<=v2.heap.size:=aI abY dY.size;clear kE dY adI;go_wp2_with fail;exact ⟨⟨k+1,by omega,by go_num,TY,aeO,aeP,aeQ,aeR⟩,by simp [intOf];omega⟩
   ·obtain rfl:k=9:=by omega
    have hT1:=gC x.nm;have Tx:=gC x.mf;have hE9:=HEL.o 9;have HEN:dK (EK 9++(Pt.Cd.textL x.nm++Pt.Cd.textL x.mf)=gy x):=dL (by rw [<-HE.o];simp);have e1:∀(a b:List UInt8),bs a++bs b=bs (a++b):=λa b=>dP a b
    generalize EK 9=E9 at*;have agI:(Pt.Cd.textL x.nm).length<=5000:=by omega
    have agJ:(Pt.Cd.textL x.mf).length<=5000:=by omega
    have ZH:=dL (λw=>Pt.Cd.text_c x.nm w (by omega));have nB:=dL (λw=>Pt.Cd.text_c x.mf w (by omega));generalize Pt.Cd.textL x.nm=T1 at*;generalize Pt.Cd.textL x.mf=T2 at*;have Th:¬ 9223372036854775807 < E9.length+T1.length:=by omega
    have hA2:¬ 9223372036854775807 < E9.length+T1.length+T2.length:=by omega
    have aeS:dK (Pt.Bld wr.drew b0 b0 E9):=dL (show Pt.Bld wr b0 b0 E9 from pM.o);have aeT:=dL (mw.drew hKr.o);have aeU:=dL (Below.drew vQ.o);go_wp2_with fail;go_region_held3 (λw'=>w'.cell? (Qc q0 9)=x.nm/\w'.cell? (Qc q0 10)=x.mf)
     (with_reducible first|exact mw.cells Ty.o|exact mw.cells JZ.o|exact mw.cells qZ.o|exact mw.cells hKr.o|exact mw.cells (mw.drew hKr.o)|exact mw.cells (mw.drew (mw.drew hKr.o)))
     (first
      |(go_at_call 180;refine (Pt.string_any b0 b0 E9 _ aeS.o Je).mono ?_;rintro e w4 ⟨rfl,hb4⟩;have qZ:=dL (mw.below aeT.o hb4 FV);have fI:=dL (And.intro (aeU.o.trans (hb4.mono (by have:=hKr.o.lt;omega))) (aI Je hb4.size));clear hb4)
      |(go_at_call 195;refine (ZH.o _).mono ?_;rintro e w5 ⟨rfl,ef⟩;have JZ:=dL (mw.later qZ.o ef);have fk:=dL (fI.o.1.trans (ef.mono fI.o.1.size));clear ef)
      |(go_at_call 195;refine (nB.o _).mono ?_;rintro e w6 ⟨rfl,jr⟩;have Ty:=dL (mw.later JZ.o jr);have jt:=dJ fk jr;clear jr))
    go_wp2_with fail;go_ret2;exact ⟨by rw [<-HEN.o];first|rfl|(rw [bx];rfl),jt.o⟩
theorem qu (x:dX) (hx:FQ x) (hrc:sG x=0) (w:World):
  Calls prog 198 #[ov x] w (dM w (.tuple #[(gy x),qn])):=by
 cases h:x.dir with
 |false=>exact Iz.1 x hx hrc h w
 |true=>exact Iz.2 x hx hrc h w
theorem de {P:Program} (w:World) {ops:Array Oper} {rest:List Oper} {o:Oper} {a:Act} {Q:Exit->Act->World->Prop} (hgd:o.guard=none) (s y:Operand) (t tx:TypeId)
  (ho:o.op=.call { callee:=.builtin .append,args:=#[s,y],argTypes:=#[t,tx] })
  (e:TypeId) (i:TypeInfo) (z:Value) (size:Nat) (ht:P.underlying t=some (.slice e)) (hi:P.info? e=some i) (hz:i.zero=some z) (hsize:i.size=size) (hzs:z.cells.size=size) (hsz:0 < size)
  (hs:a.eval s=.slice none 0 0) (x:Value) (hx:a.eval y=x) (m:Nat) (hm:0 < m) (news:List Value) (hsrc:Src P size tx x m news w)
  (h63:m<=maxLen) (hbytes:m*i.bytes<=140737488355328)
  (h:∀cap w',dQ w' w size (.slice (some w) m cap) m news->Below w w w'->wpList P ops Q rest (a.put o.dst (.slice (some w) m cap)) w'):wpList P ops Q (o :: rest) a w:=by
 refine dW w hgd s y t tx ho e i z size ht hi hz hsize hzs hsz w _ 0 [] hs (dQ.nil_ _ _ _) x hx m news hsrc (by omega) (by rw [aV];exact hbytes) (aB _) ?_;intro v' w' hown hg fR;rw [aV,ak] at hown;rcases hown.2 with ⟨_,h0⟩| ⟨g,cap,rfl,_⟩
 ·omega
 ·have RC:g=w.heap.size:=by
   rcases fR with h1|h1
   ·cases h1
   ·cases h1;rfl
  subst RC;exact h cap w' hown ((aC _ w).grown hg (aB _) (λk hk=>by cases hk))
theorem Ut:(prog.info? 3).map (λi=>(i.zero,i.size,i.bytes))=some (some (.int .i64 0),1,8):=by kernel_rfl
variable {A:Option Addr}
theorem WQ {c:Nat} (h:mR w A n c [x]):∃b off,A=some ⟨b,off,none⟩/\n=1/\1<=c/\c<=9223372036854775807/\b < w.heap.size/\∀j u,(oc x)[j]? =some u->w.cell? ⟨b,off+j,none⟩=some u:=by
 obtain ⟨b,off,cs,e,hlt,hl,⟨rfl,_⟩,hc⟩:=h.4 0 (by simp);have h1:=h.1;have h2:=h.2;simp at h1;exact ⟨b,off,e,h1.symm,by omega,h.3,hlt,λj u hu=>by have:=hc j u hu;simpa using this⟩
theorem Sj (w:World):Calls prog 126 #[()] w (dM w (.slice none 0 0)):=by
 go_enter func126,ntmps126;go_wp2_with fail;refine wp_loop_rounds 1 ?_;rw [rounds_succ];go_wp2_with fail;go_ret;exact ⟨rfl,aC _ _⟩
variable {u:Value}
theorem EI {B:Nat} (h:dQ w B 1 (.slice (some g) 1 cap) 1 [u]):w.cell? g=some u/\w.frozen? ⟨g,0,none⟩=false/\1<=cap/\cap<=9223372036854775807/\g < w.heap.size:=by
 rcases h.2 with ⟨h0,_⟩| ⟨g',cap',he,hb,hlt,hnc,hcm,hs,hf,hx⟩
 ·cases h0
 ·simp only [Value.slice.injEq,Option.some.injEq,Addr.mk.injEq,true_and,and_true] at he
  obtain ⟨rfl,rfl⟩:=he;exact ⟨hx 0 u rfl,hf 0 (by omega),hnc,by unfold maxLen at hcm;omega,hlt⟩
theorem Sk {n:Int} (hc:w.cell? g=some u) (h1:1<=cap) (h2:cap<=9223372036854775807) (hg:g < w.heap.size) (hn:oS n):
  Sl (w.setCell g n) 1 uv (some ⟨g,0,none⟩) 1 cap [n]:=
 ⟨rfl,h1,h2,λi hi=>by
  obtain rfl:i=0:=by simp at hi;omega
  refine ⟨g,0,[.int .i64 n],rfl,by simpa [World.setCell] using hg,rfl,⟨rfl,hn⟩,λj v hv=>?_⟩
  match j,hv with
  |0,hv=>cases hv;exact World.cell?_setCell_same w ⟨g,0,none⟩ _ hc⟩
theorem aae {c:Nat} {x:Int} (h:Sl w 1 uv A n c [x]):∃b off,A=some ⟨b,off,none⟩/\n=1/\1<=c/\c<=9223372036854775807/\b < w.heap.size/\w.cell? ⟨b,off,none⟩=x:=by
 obtain ⟨b,off,cs,e,hlt,hl,⟨rfl,_⟩,hc⟩:=h.4 0 (by simp);have h1:=h.1;have h2:=h.2;simp at h1;exact ⟨b,off,e,h1.symm,by omega,h.3,hlt,by have:=hc 0 _ rfl;simpa using this⟩
theorem Sm (x:dX) (h0:x.st.2=0) (A:Option Addr) (n c:Nat) (w:World) (hx:mR w A n c [x]):
  Calls prog 126 #[Qq A n c] w λe w'=>∃A' c',e=.returned (.slice A' 1 c')/\Sl w' 1 uv A' 1 c' [1]/\Below w w w':=by
 obtain ⟨b,off,rfl,rfl,hc1,hc2,hlt,hc⟩:=WQ hx;obtain ⟨i0,hi,hz0,hz1,hz2⟩:=info_parts Ut;have c0:=hc 0 _ rfl;have c1:=hc 1 _ rfl;have c2:=hc 2 _ rfl;have c3:=hc 3 _ rfl;have c4:=hc 4 _ rfl;have c5:=hc 5 _ rfl;have c6:=hc 6 _ rfl;have c7:=hc 7 _ rfl;have c8:=hc 8 _ rfl;have c9:=hc 9 _ rfl;have jX:=hc 10 _ rfl;rw [h0] at c1;simp only [bZ] at c0;have HI:=dL hi;have gx:=dL hz0;have gJ:=dL hz1;have gT:=dL hz2;clear hc hx h0 hi hz0 hz1 hz2;go_enter func126,ntmps126;go_wp2_with fail;refine wp_loop_rounds 2 ?_;rw [rounds_succ];go_wp2_with fail;refine wp_loop_rounds 2 ?_;rw [rounds_succ];go_wp2_with (at_builtin;refine de _ rfl (.tmp 26) (.tmp 27) 51 51 rfl 3 i0 (.int .i64 0) 1 underlying51 HI.o gx.o gJ.o rfl (by decide) rfl _ rfl 1 (by decide) [.int .i64 0] (Src.one underlying51 (by simp [go_sem]) rfl) (by decide) (by rw [gT.o];decide) ?_)
 intro cap w2 hown dY;obtain ⟨d0,z0,k1,k2,k3⟩:=EI hown;obtain ⟨g,hg⟩:=dG (w.heap.size+1+1);rw [<-hg] at d0 z0 k3;have nI:Below w w w2:=(((aC w w).alloc (aB _) _).alloc (by simp) _).trans (dY.mono (by omega));have HBW:=dL (nI.setCell (p:=g) (show w.heap.size<=g by omega) (.int .i64 1));have HS:=dL (Sk d0 k1 k2 k3 (n:=1) (by unfold oS;omega));have HG:=dL hg;clear hown dY nI hg;rw [<-HG.o];go_wp2_with fail;rw [rounds_succ];go_wp2_with fail;rw [rounds_succ];go_wp2_with fail;go_ret;exact ⟨_,_,rfl,HS.o,HBW.o⟩
theorem WR (v:Value) (w:World):Calls prog 333 #[(),v] w (dM w (.slice none 0 0)):=by
 go_enter func333,ntmps333;go_wp2_with fail;refine wp_loop_rounds 1 ?_;rw [rounds_succ];go_wp2_with fail;go_ret;exact ⟨rfl,aC _ _⟩
theorem L7 (x:dX) (h0:x.st.2=0) (hs:x.seq=1) (hn:x.nm.length<=9223372036854775807) (hm:x.mf.length<=9223372036854775807) (A:Option Addr) (n c:Nat) (w:World) (hx:mR w A n c [x]):
  Calls prog 333 #[Qq A n c,()] w λe w'=>∃A' c',e=.returned (.slice A' 1 c')/\dQ w' w 11 (.slice A' 1 c') 1 (iw [x])/\Below w w w':=by
 obtain ⟨⟨s1,s2⟩,seq,kind,node,dir,par,nm,mf⟩:=x;simp only at h0 hs hn hm;subst h0 hs;obtain ⟨b,off,rfl,rfl,hc1,hc2,hlt,hc⟩:=WQ hx;obtain ⟨i0,hi,hz0,hz1,hz2⟩:=info_parts xV;have c0:=hc 0 _ rfl;have c1:=hc 1 _ rfl;have c2:=hc 2 _ rfl;have c3:=hc 3 _ rfl;have c4:=hc 4 _ rfl;have c5:=hc 5 _ rfl;have c6:=hc 6 _ rfl;have c7:=hc 7 _ rfl;have c8:=hc 8 _ rfl;have c9:=hc 9 _ rfl;have jX:=hc 10 _ rfl;simp only [bZ] at c0;have HI:=dL hi;have gx:=dL hz0;have gJ:=dL hz1;have gT:=dL hz2;have aeV:dK (Blk ((w.alloc (.cells #[s1,qn,yh,kind,node.1,node.2,dir,par.1,par.2,nm,mf] 32)).alloc (.cells #[s1,qn,yh,kind,node.1,node.2,dir,par.1,par.2,nm,mf] 32)) (w.heap.size+1) 32 (oc ⟨(s1,0),1,kind,node,dir,par,nm,mf⟩).toArray):=dL (by
  have:=Blk.new (w.alloc (.cells (oc ⟨(s1,0),1,kind,node,dir,par,nm,mf⟩).toArray 32)) 32 (oc ⟨(s1,0),1,kind,node,dir,par,nm,mf⟩).toArray
  rwa [show (w.alloc (.cells (oc ⟨(s1,0),1,kind,node,dir,par,nm,mf⟩).toArray 32)).heap.size=w.heap.size+1 from ai _] at this)
 clear hc hx hi hz0 hz1 hz2;go_enter func333,ntmps333;go_wp2_with fail;refine wp_loop_rounds 2 ?_;rw [rounds_succ];go_wp2_with (at_builtin;refine de _ rfl (.tmp 36) (.tmp 38) 22 22 rfl 32 i0 (.agg #[qn,qn,qn,qn,qn,qn,false,qn,qn,yj,yj]) 11 underlying22 HI.o gx.o gJ.o rfl (by decide) rfl _ rfl 1 (by decide) (iw [⟨(s1,0),1,kind,node,dir,par,nm,mf⟩]) (Src.op ⟨(s1,0),1,kind,node,dir,par,nm,mf⟩ aeV.o) (by decide) (by rw [gT.o];decide) ?_)
 intro cap w2 hown dY;have nI:Below w w w2:=(((aC w w).alloc (aB _) _).alloc (by simp) _).trans (dY.mono (by omega));have HBW:=dL nI;have HO:=dL (dQ.mono (B':=w.heap.size) hown (by omega));clear hown dY nI;go_wp2_with fail;rw [rounds_succ];go_wp2_with fail;go_ret;exact ⟨_,_,rfl,HO.o,HBW.o⟩
theorem L8 (x:dX) (h0:x.st.2=0) (hs:x.seq=1) (A:Option Addr) (n c:Nat) (w:World) (hx:mR w A n c [x]) (A2:Option Addr) (n2 c2:Nat) (hv:Sl w 1 uv A2 n2 c2 [1]):
  Calls prog 333 #[Qq A n c,Qq A2 n2 c2] w (dM w (.slice none 0 0)):=by
 obtain ⟨⟨s1,s2⟩,seq,kind,node,dir,par,nm,mf⟩:=x;simp only at h0 hs;subst h0 hs;obtain ⟨b,off,rfl,rfl,hc1,hc2,hlt,hc⟩:=WQ hx;obtain ⟨b2,off2,rfl,rfl,uf,hd2,hlt2,d0⟩:=aae hv;have c0:=hc 0 _ rfl;have c1:=hc 1 _ rfl;have c2:=hc 2 _ rfl;have c3:=hc 3 _ rfl;have c4:=hc 4 _ rfl;have c5:=hc 5 _ rfl;have c6:=hc 6 _ rfl;have c7:=hc 7 _ rfl;have c8:=hc 8 _ rfl;have c9:=hc 9 _ rfl;have jX:=hc 10 _ rfl;simp only [bZ] at c0;clear hc hx hv;go_enter func333,ntmps333;go_wp2_with fail;refine wp_loop_rounds 2 ?_;rw [rounds_succ];go_wp2_with fail;rw [rounds_succ];go_wp2_with fail;go_ret;exact ⟨rfl,(aC _ w).alloc (aB _) _⟩
theorem WS (x:dX) (w:World):Calls prog 104 #[(),ov x] w (dM w (.int .i64 (-1))):=by
 unfold ov;go_enter func104,ntmps104;go_wp2_with fail;refine wp_loop_rounds 1 ?_;rw [rounds_succ];go_wp2_with fail;go_ret;exact ⟨rfl,(aC _ w).alloc (aB _) _⟩
theorem L9 (x:dX) (w:World):Calls prog 57 #[(),ov x] w (dM w (.bool false)):=by
 have HI:=dL (WS x);unfold ov at HI ⊢;go_enter func57,ntmps57;go_wp2_with fail;refine (HI.o _).mono ?_;rintro e w1 ⟨rfl,hb⟩;have HB:=dL (((aC w w).alloc (aB _) _).trans (hb.mono (by simp)));clear hb;go_wp2_with fail;go_ret;exact ⟨rfl,HB.o⟩
theorem aaf (x:dX) (hs:x.seq=1) (w:World):Calls prog 58 #[(),ov x] w (dM w (.int .i64 0)):=by
 unfold ov;rw [hs];go_enter func58,ntmps58;go_wp2_with fail;refine wp_loop_rounds 1 ?_;rw [rounds_succ];go_wp2_with fail;go_ret;exact ⟨rfl,(aC _ w).alloc (aB _) _⟩
theorem Sn (f:Value) (w:World):Calls prog 59 #[(),f] w λe w'=>e=.returned (.int .i64 (-1))/\w=w':=by
 go_enter func59,ntmps59;go_wp2_with fail;refine wp_loop_rounds 1 ?_;rw [rounds_succ];go_wp2_with fail;go_ret;exact ⟨rfl,rfl⟩
theorem OK (w:World):Calls prog 62 #[()] w λe w'=>e=.returned ()/\w=w':=
 (AnyE.slices_Clone_nil cloneOp 0 0 w).mono λ_ _ ⟨h1,h2⟩=> ⟨h1,h2.symm⟩
theorem mw.all (h:mw q x w):w.cell? q=x.st.1/\w.cell? (Qc q 1)=x.st.2/\w.cell? (Qc q 2)=x.seq/\w.cell? (Qc q 3)=x.kind/\w.cell? (Qc q 4)=x.node.1/\
  w.cell? (Qc q 5)=x.node.2/\w.cell? (Qc q 6)=x.dir/\w.cell? (Qc q 7)=x.par.1/\w.cell? (Qc q 8)=x.par.2/\w.cell? (Qc q 9)=x.nm/\w.cell? (Qc q 10)=x.mf:=
 ⟨h.blk.cell 0,h.blk.cell 1,h.blk.cell 2,h.blk.cell 3,h.blk.cell 4,h.blk.cell 5,h.blk.cell 6,h.blk.cell 7,h.blk.cell 8,h.blk.cell 9,h.blk.cell 10⟩
theorem mw.alloc {q:Nat} {x:dX} {w:World} (h:mw q x w) (o:Obj):mw q x (w.alloc o):=⟨h.blk.alloc o⟩
theorem Sq (x:dX) (g c:Nat) (w:World) (hs:Blk w g 32 (oc x).toArray):
  Calls prog 61 #[(),qn,Qs g 1 c] w λe w'=>∃g' cap,e=.returned (.slice (some ⟨g',0,none⟩) 1 cap)/\dQ w' w 11 (.slice (some ⟨g',0,none⟩) 1 cap) 1 (iw [x])/\Below w w w':=by
 obtain ⟨i0,hi,hz0,hz1,hz2⟩:=info_parts xV;have HI:=dL hi;have gx:=dL hz0;have gJ:=dL hz1;have gT:=dL hz2;have HS:=dL hs;clear hi hz0 hz1 hz2 hs;go_enter func61,ntmps61;go_wp2_with (at_builtin;refine de _ rfl (.tmp 23) (.tmp 24) 22 22 rfl 32 i0 (.agg #[qn,qn,qn,qn,qn,qn,false,qn,qn,yj,yj]) 11 underlying22 HI.o gx.o gJ.o rfl (by decide) rfl _ rfl 1 (by decide) (iw [x]) (Src.op x HS.o) (by decide) (by rw [gT.o];decide) ?_)
 intro cap w2 hown dY;have HO:=dL hown;have HB:=dL dY;clear hown dY;go_wp2_with fail;go_ret;exact ⟨_,_,rfl,HO.o,HB.o⟩
theorem adW (x:dX) (hs:x.seq=1) (hrc:sG x=0) (hn:x.nm.length<=9223372036854775807) (hm:x.mf.length<=9223372036854775807) (w:World):
  Calls prog 19 #[(),ov x] w λe w'=>∃g cap,e=.returned (.tuple #[.slice (some ⟨g,0,none⟩) 1 cap,qn])/\dQ w' w 11 (.slice (some ⟨g,0,none⟩) 1 cap) 1 (iw [x])/\Below w w w':=by
 have HR:=dL (lM x hn hm);rw [hrc] at HR;have HC:=dL (L9 x);have HF:=dL (aaf x hs);have gH:Blk (w.alloc (.cells (oc x).toArray 32)) w 32 (oc x).toArray:=Blk.new w 32 (oc x).toArray;have dV:=dH w (.cells (oc x).toArray 32);obtain ⟨w1,hw1⟩:=dG (w.alloc (.cells (oc x).toArray 32));rw [<-hw1] at gH dV;obtain ⟨q,hq⟩:=dG w.heap.size;rw [<-hq] at gH;have HW:=dL (dN (x:=x) hw1);have HQ:=dL hq;have eR:=dL gH;have ZL:=dL dV;clear gH dV hw1 hq hrc hs;unfold ov at HR HC HF ⊢;go_enter func19,ntmps19;go_upto_region 1 with (fail);rw [<-HW.o,<-HQ.o];obtain ⟨c0,c1,c2,c3,c4,c5,c6,c7,c8,c9,jX⟩:=dx eR.o;go_wp2_with fail;refine (HR.o _).mono ?_;rintro e w2 ⟨rfl,dY⟩;have eA:=dL (eR.o.below dY eR.o.lt);have Hb2:=dJ ZL dY;clear dY c0 c1 c2 c3 c4 c5 c6 c7 c8 c9 jX HR eR;obtain ⟨c0,c1,c2,c3,c4,c5,c6,c7,c8,c9,jX⟩:=dx eA.o;go_wp2_with fail;refine (HC.o _).mono ?_;rintro e w3 ⟨rfl,dn⟩;have eC:=dL (eA.o.below dn eA.o.lt);have Hb3:=dJ Hb2 dn;clear dn c0 c1 c2 c3 c4 c5 c6 c7 c8 c9 jX HC eA;obtain ⟨c0,c1,c2,c3,c4,c5,c6,c7,c8,c9,jX⟩:=dx eC.o;go_wp2_with fail;refine (HF.o _).mono ?_;rintro e w4 ⟨rfl,hb4⟩;have fI:=dL (eC.o.below hb4 eC.o.lt);have Hb4:=dJ Hb3 hb4;clear hb4 c0 c1 c2 c3 c4 c5 c6 c7 c8 c9 jX HF eC;go_wp2_with fail;refine (Sn _ _).mono ?_;rintro e w5 ⟨rfl,rfl⟩;go_wp2_with fail;have qZ:dK (mw q x w4):=dL ⟨fI.o⟩;have aeW:dK (Blk (w4.drew.alloc (.cells #[x.st.1,x.st.2,x.seq,x.kind,x.node.1,x.node.2,x.dir,x.par.1,x.par.2,x.nm,x.mf] 32)) w4.drew 32 (oc x).toArray):=dL (Blk.new w4.drew 32 (oc x).toArray);have Hd4:dK (Below w w (w4.drew.alloc (.cells #[x.st.1,x.st.2,x.seq,x.kind,x.node.1,x.node.2,x.dir,x.par.1,x.par.2,x.nm,x.mf] 32))):=dL (Hb4.o.drew.alloc Hb4.o.size _);have zV:dK (w.heap.size<=(w4.drew.alloc (.cells #[x.st.1,x.st.2,x.seq,x.kind,x.node.1,x.node.2,x.dir,x.par.1,x.par.2,x.nm,x.mf] 32)).heap.size):=dL Hd4.o.size;clear HW fI;go_region_held3 (λw'=>w'.cell? q=x.st.1/\w'.cell? (Qc q 1)=x.st.2/\w'.cell? (Qc q 2)=x.seq/\w'.cell? (Qc q 3)=x.kind/\w'.cell? (Qc q 4)=x.node.1/\w'.cell? (Qc q 5)=x.node.2/\w'.cell? (Qc q 6)=x.dir/\w'.cell? (Qc q 7)=x.par.1/\w'.cell? (Qc q 8)=x.par.2/\w'.cell? (Qc q 9)=x.nm/\w'.cell? (Qc q 10)=x.mf)
  (exact mw.all (by repeat (with_reducible first|exact Ty.o|exact qZ.o|apply mw.drew|apply mw.alloc)))
  (first
   |(go_at_call 62;refine (OK _).mono ?_;rintro e w5 ⟨rfl,rfl⟩)
   |(go_at_call 61;refine (Sq x _ 1 _ aeW.o).mono ?_;rintro e w6 ⟨g6,cap,rfl,IU,jr⟩;have IA:=dL (dQ.mono (B':=w.heap.size) IU (zV.o));have jt:=dL (Hd4.o.trans (jr.mono zV.o));have Ty:=dL (mw.later (mw.alloc (mw.drew qZ.o) _) jr);clear IU jr))
 all_goals
  go_wp2_with fail;go_ret2;exact ⟨_,_,rfl,IA.o,jt.o⟩
end
end Go.Proofs.YtgdaahffmcfhpaaGreatDoor
