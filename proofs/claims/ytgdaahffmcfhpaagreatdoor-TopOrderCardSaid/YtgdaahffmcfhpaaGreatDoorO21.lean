/- Lemmas on the way: QTail PRc PMw PMp PSt PPu PMk PJo. -/
import Derived.Deep.Quiet
import Derived.Test.YtgdaahffmcfhpaaGreatDoorO17
import Derived.Test.YtgdaahffmcfhpaaGreatDoorO20
set_option maxRecDepth 100000
set_option maxHeartbeats 8000000
namespace Go.Proofs.YtgdaahffmcfhpaaGreatDoor
open aA
open Tryz
section
open Go.RowKit
section
variable {P:Program} {ops:Array Oper} {md:Region.Mode} {C:World->Prop}
def ru (P:Program) (md:Region.Mode) (ops:Array Oper) (C:World->Prop) (n:Nat) (L:Array Bool->Act->Prop):Nat->Array Bool->Act->Prop
 |0,listed,a=>L listed a
 |f+1,listed,a=>
  Region.ready md ops listed≠[]/\∀i∈Region.ready md ops listed,i < n/\qOp P ops C i (ru P md ops C n L f (listed.setIfInBounds i true)) a
theorem ot {n g:Nat} {L:Array Bool->Act->Prop} {Q':Exit->Act->World->Prop} (hL:∀listed a w,C w->L listed a->wpAny P md ops Q' g listed a w):
  ∀(f:Nat) (listed:Array Bool) (a:Act) (w:World),C w->ru P md ops C n L f listed a->wpAny P md ops Q' (f+g) listed a w
 |0,listed,a,w,hw,h=>by rw [aV];exact hL _ _ _ hw h
 |f+1,listed,a,w,hw,h=>by
  rw [show f+1+g=(f+g)+1 by omega];exact ⟨λh0=>absurd h0 h.1,λi hi=>wpOp_of_qOp hw (λa' w' hw' h'=>ot hL f _ a' w' hw' h') (h.2 i hi).2⟩
theorem zI {n i:Nat} {oi:Oper} {v:Value} {L:Array Bool->Act->Prop} (hi:ops[i]? =some oi) (hsel:∀(j:Nat) (o:Oper) cs b,ops[j]? =some o->o.op≠.select cs b)
  (hs:Region.sinkB md ops n=true) (hc:Region.chainB md ops n=true) (hn:n < ops.size) (hin:i < n)
  (hdone:∀listed a,L listed a->∀j∈Region.ready md ops listed,n<=j):
  ∀(f:Nat) (listed:Array Bool) (a:Act),HeadInv md ops n listed->
   (∀j oj,ops[j]? =some oj->j≠i->listed.getD j true=false->(∀e∈oj.after,Region.binds md e=true->e.on≠i)->oi.apart ops oj=true)->
   i∈Region.ready md ops listed->YieldsIn P ops C oi v a->
   ru P md ops C n L f (listed.setIfInBounds i true) (a.put oi.dst v)->ru P md ops C n L (f+1) listed a:=by
 intro f;induction f with
 |zero=>
  intro listed a inv _ hr hy H;have hun:=(mem_ready.1 hr).1;refine ⟨λh=>(by rw [h] at hr;cases hr),λj hj=>?_⟩;have hjn:j < n:=by
   rcases aD j n with h|h
   ·exact h
   ·exact absurd hj (tail_waits hs hc hn inv _ i rfl hin hun j h)
  refine ⟨hjn,?_⟩;by_cases hji:j=i
  ·subst hji;exact hy.qOp hi H
  ·have:=hdone _ _ H j (ready_mono hj hji)
   omega
 |succ f ih=>
  intro listed a inv hfree hr hy H;have hun:=(mem_ready.1 hr).1;refine ⟨λh=>(by rw [h] at hr;cases hr),λj hj=>?_⟩;have hjn:j < n:=by
   rcases aD j n with h|h
   ·exact h
   ·exact absurd hj (tail_waits hs hc hn inv _ i rfl hin hun j h)
  refine ⟨hjn,?_⟩;by_cases hji:j=i
  ·subst hji;exact hy.qOp hi H
  ·have h1:=(H.2 j (ready_mono hj hji)).2
   obtain ⟨adv,oj,hoj,hall⟩:=mem_ready.1 hj;have hnot:∀e∈oj.after,Region.binds md e=true->e.on≠i:=λe he hb heq=>by
    have h1:=hall e he hb;rw [heq,getD_both hun] at h1;cases h1
   have h2:=qOp_put hoj (hfree j oj hoj hji adv hnot) (λcs b=>hsel i oi cs b hi) (λcs b=>hsel j oj cs b hoj) hy h1;have XU:∀k ok,ops[k]? =some ok->k≠i->(listed.setIfInBounds j true).getD k true=false->
     (∀e∈ok.after,Region.binds md e=true->e.on≠i)->oi.apart ops ok=true:=λk ok hk hki hun hno=>by
    refine hfree k ok hk hki ?_ hno;by_cases hjk:j=k
    ·subst hjk;exact adv
    ·rw [getD_set_ne true hjk] at hun;exact hun
   refine qOp_mono (λa' h3=>ih (listed.setIfInBounds j true) a' (inv.set hj hjn) XU (ready_mono hr (Ne.symm hji)) h3.1 ?_) h2;rw [Array.setIfInBounds_comm _ _ hji];exact h3.2
theorem uN {n g:Nat} {Lq:Act->Prop} (hsel:Region.noSelect ops=true) (hs:Region.sinkB md ops n=true) (hc:Region.chainB md ops n=true) (hn:n < ops.size):
  ∀(l:List Oper) (k:Nat) (listed:Array Bool) (a:Act),(∀j,j < l.length->l[j]? =ops[k+j]?)->k+l.length=n->HeadInv md ops n listed->
  Region.lexHead md ops g l.length k listed=true->wpQuiet P ops C Lq l a->
  ru P md ops C n (λJi a'=>Region.seqB md ops g n Ji=true/\Lq a') l.length listed a
 | [],k,listed,a,_,hk,_,hB,h=>by
  have:k=n:=by simpa using hk
  subst this;exact ⟨by simpa [Region.lexHead] using hB,h⟩
 |o :: l,k,listed,a,hl,hk,inv,hB,h=>by
  have h0:ops[k]? =some o:=by simpa using (hl 0 (by simp)).symm
  simp only [aY,Region.lexHead,cO] at hB;obtain ⟨⟨hr,hf⟩,VF⟩:=hB;have hkn:k < n:=by simp only [aY] at hk;omega
  have hr':k∈Region.ready md ops listed:=by simpa using hr
  have hst:qOp P ops C k (wpQuiet P ops C Lq l) a:=by unfold qOp;simp only [h0];exact h
  obtain ⟨v,hy,hK⟩:=yieldsIn_of_qOp h0 hst;exact zI h0 (Region.noSelect_spec hsel) hs hc hn hkn (λJi a' hL=>seqB_ready hL.1) l.length listed a inv (Region.free_spec h0 hf) hr' hy
   (uN hsel hs hc hn l (k+1) _ _ (λj hj=>by have:=hl (j+1) (by simp;omega);simpa [bk,Nat.add_comm 1 j] using this) (by simp only [aY] at hk;omega) (inv.set hr' hkn) VF hK)
variable {Q:Exit->Act->World->Prop} {w:World} {l:List Oper}
theorem iJ{id:Nat} {a:Act} (n:Nat) (hm:P.follows .mixedOrders=true) (hB:Region.lexTailB .any l.toArray n=true) (hC:C { w with drawn:=w.drawn+1 })
  (h:wpQuiet P l.toArray C (λa'=>∀w',C w'->wpList P l.toArray Q (l.drop n) a' w') (l.take n) a):(Code.region id l.toArray true).wp P Q a w:=by
 simp only [Region.lexTailB,cO,decide_eq_true_eq] at hB;obtain ⟨⟨⟨⟨hsel,hn⟩,hs⟩,hc⟩,afV⟩:=hB;have hn':n < l.length:=by simpa using hn
 have htl:(l.take n).length=n:=by simp;omega
 have vw:(l.drop n).length=l.toArray.size - n:=by simp
 have aem:HeadInv .any l.toArray n (Array.replicate l.toArray.size false):=
  ⟨by simp,λj oj _ hl=>(by rw [getD_replicate_false] at hl;cases hl),λt _ ht=>getD_in (by simpa using ht) (getD_replicate_false _ _)⟩
 have H:=uN (md:=.any) (g:=l.toArray.size - n) hsel hs hc hn (l.take n) 0 _ a (λj hj=>by
  have hj':j < n:=by rw [htl] at hj;exact hj
  simp [hj']) (by simpa using htl) aem (by rw [htl];exact afV) h
 refine wp_region_any hm ?_;have:=ot (Q':=Q) (g:=l.toArray.size - n) (λlisted a' w' hw' hL=>by
  have:=wpAny_of_seq (md:=.any) (Q':=Q) (l.drop n) n listed a' w' (λj=>by simp [List.getElem?_drop]) (by rw [vw];exact hL.1) (hL.2 w' hw')
  rwa [vw] at this) _ _ _ _ hC H
 rw [htl,show n+(l.toArray.size - n)=l.toArray.size by omega] at this;exact this
theorem mF{id:Nat} {a:Act} (n:Nat) (hm:P.follows .mixedOrders=true) (hB:Region.lexTailB .any l.toArray n=true)
  (h:wpQuiet P l.toArray (λw'=>∃x:eE w,w'=x.wd) (λa'=>∀w',(∃x:eE w,w'=x.wd)->wpList P l.toArray Q (l.drop n) a' w') (l.take n) a):(Code.region id l.toArray true).wp P Q a w:=
 iJ (C:=λw'=>∃x:eE w,w'=x.wd) n hm hB ⟨⟨_,(aC _ _).drew⟩,rfl⟩ h
end
end
namespace Pt
open Go.RowKit
attribute [local go_sem] dR dO dS dP
def Nn (d:List UInt8) (k:Nat):List (List UInt8):=(List.range k).map (piece d)
theorem KN (d:List UInt8) (k:Nat):Nn d (k+1)=Nn d k++[piece d k]:=by simp [Nn,List.range_succ]
end Pt
namespace Pt
open Go.RowKit
attribute [local go_sem] dR dO dS dP
def tJ (w:World) (d:List UInt8) (e:Ending) (w':World):Prop:=e=.returned (.tuple #[.string (bs (if d.length<=4096/\d≠[] then manL d else [])),.int .i64 (if d.length<=4096 then 0 else 40)])/\Below w w w'
variable {d s:List UInt8}
theorem tJ.big{w w':World} (h:¬ d.length<=4096) (hb:Below w w w'):tJ w d (.returned (.tuple #[yj,(40:Int)])) w':=by
 unfold tJ;rw [if_neg (λh'=>h h'.1),if_neg h];exact ⟨rfl,hb⟩
theorem tJ.nil_ {w w':World} (hb:Below w w w'):tJ w [] (.returned (.tuple #[yj,qn])) w':=by
 unfold tJ;exact ⟨rfl,hb⟩
theorem tJ.yes{w w':World} (h:d.length<=4096) (h0:d≠[]) (hs:s=manL d) (hb:Below w w w'):tJ w d (.returned (.tuple #[s,qn])) w':=by
 unfold tJ;rw [if_pos ⟨h,h0⟩,if_pos h,hs];exact ⟨rfl,hb⟩
def tK (d:List UInt8) (k:Nat):List UInt8:=Cd.numL d.length++(Nn d k).flatMap keyL
theorem AP (d:List UInt8):tK d 0=Cd.numL d.length:=by simp [tK,Nn]
theorem AQ (d:List UInt8) (k:Nat):tK d (k+1)=tK d k++keyL (piece d k):=by
 unfold tK;rw [KN,List.flatMap_append,bx];simp
theorem No (d:List UInt8):tK d (pieces d.length)=manL d:=rfl
theorem Dh (d:List UInt8) (k:Nat):(tK d k).length<=9+32*k:=by
 have h9:(Cd.numL (d.length:Int)).length<=9:=Cd.numU_len _;induction k with
 |zero=>rw [AP];omega
 |succ k ih=>rw [AQ,aP,keyL_len];omega
end Pt
namespace Pt
open Go.RowKit
attribute [local go_sem] dR dO dS dP
variable {l:List UInt8} {v:Value} {xs:List Value}
theorem Np{w w':World} {B B0 b:Nat} {n:Nat} (h:w.ownsRow B 9 1 v n xs) (hB:Bld w B0 b l) (hk:Lib.OthersKept 5 (some b) w w'):w'.ownsRow B 9 1 v n xs:=by
 refine ⟨h.1,?_⟩;rcases h.2 with hn| ⟨g,cap,cur,rfl,hb,hg,hnc,hcm,hcs,ht⟩
 ·exact .inl hn
 ·refine .inr ⟨g,cap,cur,rfl,hb,hk g _ hg (λe=>?_) (λc fz e=>?_),hnc,hcm,hcs,ht⟩
  ·obtain rfl:=aX e
   rcases hB with hB|hB
   ·obtain ⟨_,u,hu,_⟩:=hB;rw [hg] at hu;cases hu
   ·obtain ⟨_,u,hu,_⟩:=hB;rw [hg] at hu;cases hu
  ·cases e
theorem mj{w w':World} {B:Nat} {e:TypeId} {size:Nat} {n:Nat} (h:w.ownsRow B e size v n xs) (hb:Below w w w'):w'.ownsRow B e size v n xs:=
 h.kept (fC hb none) (by
  rcases h.2 with ⟨rfl,_⟩| ⟨g,cap,cur,rfl,_⟩
  ·exact .inl rfl
  ·exact .inr (by simp [Value.ownBlock]))
theorem Bld.below{w w':World} {B b:Nat} (h:Bld w B b l) (hb:Below w w w'):Bld w' B b l:=by
 have go:∀p,Lib.BuilderAt 261 5 B b p (bv l) w->Lib.BuilderAt 261 5 B b p (bv l) w':=λp ⟨h1,v,h2,h3,h4⟩=>
  ⟨h1,v,(hb.block b (by
   rcases aD b w with h'|h'
   ·exact h'
   ·rw [ax h'] at h2;cases h2)).trans h2,mj h3 hb,h4⟩
 rcases h with h|h
 ·exact .inl (go _ h)
 ·exact .inr (go _ h)
theorem man_any (d:List UInt8) (hd:d.length<=1000000) (w:World):Calls prog 117 #[d] w (tJ w d):=by
 by_cases hbig:d.length<=4096
 case neg=>
  have hq:decide ((d.length:Int) > 4096)=true:=decide_eq_true (by omega);have HB:=dL hbig;clear hbig;go_enter func117,ntmps117;go_wp2_with fail;go_ret2;exact tJ.big HB.o (aC _ _)
 have hq:decide ((d.length:Int) > 4096)=false:=decide_eq_false (by omega);by_cases h0:d=[]
 ·subst h0
  go_enter func117,ntmps117;go_wp2_with fail;go_ret2;exact tJ.nil_ (aC _ _)
 have hem:d.isEmpty=false:=by cases d <;> simp_all
 have H0:=dL h0;have aen:=dL hbig;have CT:=dL (λw=>Cd.num_c (d.length:Int) w (by omega));rw [<-AP] at CT;have hsh:=DW d;have yQ:=dL hsh;have aeo:=dL (cut_any d hd);have Hw:=dL (λ(s:List UInt8) (h:s.length<=256) (w:World)=>key_c s (by omega) w);have hpl:pieces d.length<=16:=by unfold pieces;omega
 have hcl:=og d;have yS:=(aC w w).alloc (aB _) (.cells #[.pointer none,()] 261);have kE:=Bld.fresh w;have hm0:=Dh d 0;obtain ⟨w0,hw0⟩:=dG (w.alloc (.cells #[.pointer none,()] 261));obtain ⟨b0,hb0⟩:=dG w.heap.size;have hs0:b0 < w0.heap.size:=by rw [hw0,hb0];simp
 rw [<-hw0] at yS kE;rw [<-hb0] at kE;have HW:=dL hw0;have HQ:=dL hb0;have yM:=dL yS;have oO:=dL kE;clear h0 hbig hsh hw0 hb0 yS kE;go_enter func117,ntmps117;go_upto_region 6 with (fail);rw [<-HW.o,<-HQ.o];go_wp2_with fail;refine (CT.o w0).mono ?_;rintro e w1 ⟨rfl,dV⟩;have eR:=dJ yM dV;have aep:=dL (Bld.below oO.o dV);have hs1:b0<=w1.heap.size:=aI (ag hs0) dV.size;clear dV;go_wp2_with fail;refine (write_any b0 b0 [] (tK d 0) w1 aep.o (by simp;omega) hs1).mono ?_;rintro e w2 ⟨rfl,Yb,dY,_⟩;rw [ak] at Yb;have eA:=dL (eR.o.trans (dY.mono (by rw [HQ.o];exact aB _)));have hs2:b0<=w2.heap.size:=aI hs1 dY.size;have oC:=dL Yb;clear dY Yb;go_wp2_with fail;refine (aeo.o w2).mono ?_;rintro e w3 ⟨v3,rfl,hO,dn⟩;have oP:=dL (Bld.below oC.o dn);have eC:=dJ eA dn;have hs3:b0<=w3.heap.size:=aI hs2 dn.size;obtain ⟨A,c,rfl,hS⟩:=fm.strs (dQ.of_row hO) yQ.o;have HO:=dL hO;have lg:=hS.max;have hle:=hS.le;have wB:=dL hcl;clear hO dn hS hcl;go_wp2_with fail;go_loopw [21] (λi wr=>∃k:Nat,k<=(cutL d).length/\i=.int .i64 k/\Bld wr b0 b0 (tK d k)/\wr.ownsRow w2 9 1 (.slice A (cutL d).length c) (cutL d).length (strs (cutL d))/\Below b0 w wr/\b0<=wr.heap.size) (λi _=>(cutL d).length - (intOf i).toNat)
 case atStart=>exact ⟨0,by omega,rfl,oP.o,HO.o,by rw [HQ.o];exact eC.o,hs3⟩
 case round=>
  obtain ⟨k,hk,rfl,pM,hOr,vQ,Je⟩:=hrel;rcases aD k (cutL d).length with hlt|hge
  ·obtain ⟨A',c',he,hS⟩:=fm.strs (dQ.of_row hOr) yQ.o
   cases he;obtain ⟨b,off,rfl,jW,c0,hm⟩:=Strs.at_ hS hlt;rw [S8 hlt] at c0;have hki:(k:Int) < ((cutL d).length:Int):=by omega
   have HK:=dL (Hw.o (piece d k) (AE d k) wr);have vN:=dL (AQ d k);unfold keyL at vN;have JR:=Dh d k;have aeq:(tK d k).length<=1000:=by have:=wB.o;omega
   have agt:((sumL (piece d k)).take 32).length<=32:=List.length_take_le _ _;have oT:=dL pM;have HOr:=dL hOr;have Hbr:=dL vQ;clear pM hOr vQ JR hm hS;generalize (sumL (piece d k)).take 32=ky at*;generalize piece d k=pc at*;go_wp2_with fail;refine HK.o.mono ?_;rintro e w4 ⟨rfl,hb4⟩;have fI:=dL (Below.trans Hbr.o (hb4.mono Je));have abD:=dL (Bld.below oT.o hb4);have rI:=dL (mj HOr.o hb4);have hs4:b0<=w4.heap.size:=aI Je hb4.size;clear hb4;go_wp2_with fail;refine (write_any b0 b0 (tK d k) ky w4 abD.o (by omega) hs4).mono ?_;rintro e w5 ⟨rfl,adE,ef,hk5⟩;have fk:=dL (Below.trans fI.o ef);have sn:=dL (Np rI.o abD.o hk5);have hs5:b0<=w5.heap.size:=aI hs4 ef.size;have vT:=dL adE;clear adE ef hk5;go_wp2_with fail;exact ⟨⟨k+1,by omega,by go_num,by rw [vN.o];exact vT.o,sn.o,fk.o,hs5⟩,by simp [intOf];omega⟩
  ·have hkn:¬ (k:Int) < ((cutL d).length:Int):=by omega
   have dy:dK (tK d k=manL d):=dL (by rw [<-No];congr 1;have:=wB.o;omega);have oT:=dL pM;have Hbr:=dL vQ;clear pM hOr vQ;go_wp2_with fail;refine (string_any b0 b0 (tK d k) wr oT.o Je).mono ?_;rintro e w4 ⟨rfl,hb4⟩;have fI:=dL (show Below w w w4 by rw [<-HQ.o];exact Below.trans Hbr.o hb4);clear hb4;go_wp2_with fail;go_ret2;exact tJ.yes aen.o H0.o dy.o fI.o
end Pt
namespace Pt
open Go.RowKit Fm
attribute [local go_sem] dR dO dS dP
theorem WG (w:World):(Instr.makeMap 191 none).run prog w=.ok (.map (some w.heap.size)) (w.alloc (.map #[] 0)):=by simp [go_sem,Instr.makeMap]
theorem WH (w:World):(Instr.makeMap 225 none).run prog w=.ok (.map (some w.heap.size)) (w.alloc (.map #[] 0)):=by simp [go_sem,Instr.makeMap]
structure StI (w:World) (d pb kb:Nat) (q u:Nat) (fs:Files):Prop where
 blk:Blk w d 227 #[.int .i64 (q:Nat),.int .i64 (u:Nat),.map (some pb),.map (some kb)]
 fs:Fs w pb fs
 kept:w.heap[kb]? =some (.map #[] 0)
 ne:kb≠pb
variable {w:World}
theorem StI.later{d pb kb q u:Nat} {fs:Files} {w':World} (h:StI w d pb kb q u fs) (hb:Below w w w'):StI w' d pb kb q u fs:=
 ⟨h.blk.below hb h.blk.lt,h.fs.below hb,(hb.block kb (by
  rcases aD kb w with hlt|hge
  ·exact hlt
  ·have:=h.kept;rw [ax hge] at this;cases this)).trans h.kept,h.ne⟩
theorem new_any (n:Nat) (h1:1<=n) (h2:n<=16777216) (w:World):
  Calls prog 172 #[.int .i64 (n:Nat)] w λe w'=>∃d pb kb,e=.returned (.tuple #[.pointer (some ⟨d,0,none⟩),qn])/\StI w' d pb kb n 0 []/\Below w w w'/\w.heap.size<=d/\w.heap.size<=pb/\w.heap.size<=kb:=by
 have yu:=WG w;have hm2:=WH (w.alloc (.map #[] 0));have c1:decide ((n:Int) < 1)=false:=by simp;omega
 have c2:decide ((16777216:Int) < n)=false:=by simp;omega
 go_enter func172,ntmps172;go_wp2_with fail;go_ret2;refine ⟨w.heap.size+2,w.heap.size,w.heap.size+1,by simp,⟨?_,?_,?_,by omega⟩,?_,by omega,by omega,by omega⟩
 ·have:=Blk.new ((w.alloc (.map #[] 0)).alloc (.map #[] 0)) 227 #[.int .i64 (n:Nat),qn,.map (some w.heap.size),.map (some (w.heap.size+1))]
  rwa [show ((w.alloc (.map #[] 0)).alloc (.map #[] 0)).heap.size=w.heap.size+2 from by simp] at this
 ·exact (Fs.new w).alloc _|>.alloc _
 ·have:=(Fs.new (w.alloc (.map #[] 0))).alloc (.cells #[.int .i64 (n:Nat),qn,.map (some w.heap.size),.map (some (w.heap.size+1))] 227)
  rw [show (w.alloc (.map #[] 0)).heap.size=w.heap.size+1 from by simp] at this;exact this
 ·exact (((aC _ w).alloc (aB _) _).alloc (by simp) _).alloc (by simp;omega) _
theorem Nq (a:Nat) (x:Int) (w:World) (hc:w.cell? (Qc a 1)=x):Calls prog 313 #[.pointer (some ⟨a,1,none⟩)] w λe w'=>e=.returned x/\w=w':=by
 have hl:=run_call_load (P:=prog) func358 (by kernel_rfl) (by kernel_rfl) (by kernel_rfl) .i64 (by kernel_rfl) hc;go_enter func313,ntmps313;go_wp2_with fail;go_ret;exact ⟨rfl,rfl⟩
theorem Be (a:Nat) (x y s:Int) (w:World) (hc:w.cell? (Qc a 1)=x) (hz:w.frozen? ⟨a,1,none⟩=false) (hs:wrap64 (x+y)=s):
  Calls prog 123 #[.pointer (some ⟨a,1,none⟩),y] w λe w'=>e=.returned s/\w'=w.setCell (Qc a 1) s:=by
 have hl:=run_call_add (P:=prog) func189 (by kernel_rfl) (by kernel_rfl) (by kernel_rfl) .i64 (by kernel_rfl) (y:=y) (s:=s) hc hz (by rw [<-hs];simp [go_sem];rw [IntKind.wrap_i64];unfold wrap64;omega);go_enter func123,ntmps123;go_wp2_with fail;go_ret;exact ⟨rfl,rfl⟩
theorem Nr{d pb kb q u:Nat} {fs:Files} (h:StI w d pb kb q u fs):Calls prog 249 #[Qp d] w λe w'=>e=.returned (.int .i64 (u:Nat))/\w=w':=by
 have HL:=dL (Nq d (u:Nat) w (h.blk.cell 1));clear h;go_enter func249,ntmps249;go_wp2_with fail;refine HL.o.mono ?_;rintro e w' ⟨rfl,rfl⟩;go_wp2_with fail;go_ret;exact ⟨rfl,rfl⟩
def SS (d pb kb:Nat) (i:Nat):Prop:=i=d\/i=pb\/i=kb
theorem StI.kp {S:Nat->Prop} {d pb kb q u:Nat} {fs:Files} {w w':World} (h:StI w d pb kb q u fs) (k:dm S w w') (hn:∀i,SS d pb kb i->¬ S i):StI w' d pb kb q u fs:=
 ⟨h.blk.kp k (hn d (.inl rfl)),(k.block pb h.fs.lt (hn pb (.inr (.inl rfl)))).trans h.fs,(k.block kb (by
  rcases aD kb w with hlt|hge
  ·exact hlt
  ·have:=h.kept;rw [ax hge] at this;cases this) (hn kb (.inr (.inr rfl)))).trans h.kept,h.ne⟩
theorem StI.bnd{d pb kb q u:Nat} {fs:Files} (h:StI w d pb kb q u fs):∀i,SS d pb kb i->i < w.heap.size:=λi hi=>by
 rcases hi with rfl|rfl|rfl
 ·exact h.blk.lt
 ·exact h.fs.lt
 ·rcases aD i w with hlt|hge
  ·exact hlt
  ·have:=h.kept;rw [ax hge] at this;cases this
end Pt
namespace Pt
open Go.RowKit Fm
attribute [local go_sem] dR dO dS dP
theorem uO (w:World):(zeroValue 9).run prog w=.ok (.string ⟨#[]⟩) w:=zeroValue9 w
theorem put_any {d pb kb q u:Nat} {fs:Files} {w:World} (h:StI w d pb kb q u fs) (x:Bytes) (h1:1<=x.length) (h2:x.length<=256) (hno:Fm.get fs (keyL x)=none) (hu:u<=100000000) (hq:q<=16777216) (hfit:u+x.length<=q):
  Calls prog 174 #[Qp d,x] w λe w'=>e=.returned (.tuple #[(keyL x),qn])/\StI w' d pb kb q (u+x.length) (put fs (keyL x) x)/\dm (SS d pb kb) w w':=by
 have HK:=dL (key_c x (by omega) w);have c0:(x ==[])=false:=by
  rw [beq_eq_false_iff_ne];exact λe=>by rw [e] at h1;simp at h1
 obtain ⟨K,hK⟩:=dG (keyL x);have HK:dK (Calls prog 179 #[x] w (dM w (.string (bs K)))):=dL (by rw [hK];exact HK.o);rw [<-hK] at hno ⊢;have H:=dL h;clear h hK;have step:∀w1,Below w w w1->StI w1 d pb kb q u fs:=λw1 hb=>H.o.later hb
 have hc:decide ((q:Int) < (u:Int)+(x.length:Int))=false:=by simp;omega
 go_enter func174,ntmps174;go_wp2_with fail;refine HK.o.mono ?_;rintro e w1 ⟨rfl,dV⟩;have hs1:=step w1 dV;have q2:w1.cell? (Qc d 2)=some (.map (some pb)):=hs1.blk.cell 2;have hlk:=hs1.fs.look2 underlying191 underlying9 uO K;rw [hno] at hlk;simp only [Option.getD_none,Option.isSome_none] at hlk;have kd0:∀y:eE w1,y.wd.cell? d=some (.int .i64 (q:Nat)):=λy=>y.cell (hs1.blk.cell 0)
 have HU:=dL (λy:eE w1=>Nr (hs1.later y.below));have rJ:=dL hs1;have eR:=dL dV;clear hs1 dV;go_wp2_with fail;refine eo (by kernel_rfl) (by kernel_rfl) ?_;repeat (go_big_quiet_step ((go_at_call 249;exact wI (HU.o _))))
 refine wpQuiet_nil ?_;rintro _ ⟨y,rfl⟩;have MY:=rJ.o.later y.below;have hc1:y.wd.cell? (Qc d 1)=some (.int .i64 (u:Nat)):=MY.blk.cell 1;have hz1:=MY.blk.frozen 1;have kL:=Be d (u:Nat) (x.length:Nat) ((u+x.length:Nat):Int) y.wd hc1 hz1 (by unfold wrap64;omega);obtain ⟨w2,eV⟩:=dG (y.wd.setCell (Qc d 1) (u+x.length:Nat));rw [<-eV] at kL;have dY:Blk w2 d 227 #[.int .i64 (q:Nat),(u+x.length:Nat),.map (some pb),.map (some kb)]:=by rw [eV];exact MY.blk.set_ 1 _
 have hg2:y.wd.grownBy w2 (some d):=by rw [eV];exact dh (dz _ _) (p:=Qc d 1) (.inl rfl) _
 have Hx:Fs w2 pb fs:=MY.fs.grown hg2 (λe=>MY.fs.ne_blk MY.blk (by cases e;rfl));have hdk:d≠kb:=by
  rintro rfl;have h1:=MY.blk;have h2:=MY.kept;unfold Blk at h1;rw [h1] at h2;cases h2
 have XV:kb < y.wd.heap.size:=by
  rcases aD kb y.wd with hlt|hge
  ·exact hlt
  ·have:=MY.kept;rw [ax hge] at this;cases this
 have hk2:w2.heap[kb]? =some (.map #[] 0):=(hg2.block kb XV (λe=>hdk (by cases e;rfl))).trans MY.kept;have q22:w2.cell? (Qc d 2)=some (.map (some pb)):=dY.cell 2;obtain ⟨w3,hr3,XG,hg3,_⟩:=Hx.store underlying191 underlying9 K x;have hne:=MY.ne;have h3:StI w3 d pb kb q (u+x.length) (put fs K x):=
  ⟨dY.grown hg3 (λe=>Hx.ne_blk dY (by cases e;rfl)),XG,(hg3.block kb (aN XV hg2.size) (λe=>hne (by cases e;rfl))).trans hk2,hne⟩
 have fD:dm (SS d pb kb) w w2:=eF (eO (S:=SS d pb kb) (eR.o.trans (y.below.mono eR.o.size))) (ek (S:=SS d pb kb) hg2 (λi e=>.inl (by cases e;rfl))) (λ_ _ h=>h);have H3:=dL h3;have eC:=dL (eF fD (ek (S:=SS d pb kb) hg3 (λi e=>.inr (.inl (by cases e;rfl)))) (λ_ _ h=>h));have aer:=dL kL;clear h3 fD kL hne Hx hk2 hdk XV hg2 hg3 XG eV dY MY step;go_wp2_with fail;refine aer.o.mono ?_;rintro e w' ⟨rfl,hw'⟩;rw [hw'];clear hw';go_wp2_with fail;go_ret2;exact ⟨rfl,H3.o,eC.o⟩
end Pt
namespace Pt
open Go.RowKit Fm
attribute [local go_sem] dR dO dS dP
theorem KQ {n:Nat} (h:n < 18446744073709551616) (rest:List UInt8):Cd.rnumR (Cd.numU n++rest)=(rest,0,n):=by
 have h1:=Cd.num_app (d:=Cd.numU n++rest) (a:=0) h (bz ..);have h2:=Cd.rnum_num (Cd.numU n++rest) 0;rw [bz,h1] at h2;obtain ⟨h3,h4,h5⟩:=h2;have h6:=h5 rfl;rw [aV,List.drop_left] at h6;exact Prod.ext h6 (Prod.ext h3 h4)
theorem Ns (l:List (List UInt8)):(l.flatMap keyL).length=32*l.length:=by
 induction l with
 |nil=>rfl
 |cons x l ih=>rw [aj,aP,ih,keyL_len,aY];omega
theorem KT (l:List (List UInt8)):kO (l.flatMap keyL) l.length=l.map keyL:=by
 induction l with
 |nil=>rfl
 |cons x l ih=>
  unfold kO at ih ⊢;rw [aY,List.range_succ_eq_map,bB,List.map_map,bB];refine congr (congrArg List.cons ?_) ?_
  ·unfold oG
   rw [aj,Nat.mul_zero,bz,<-keyL_len x,List.take_left]
  ·rw [<-ih]
   refine List.map_congr_left λi _=>?_
   show oG _ (i+1)=oG _ i;unfold oG;rw [aj];rw [show 32*(i+1)=(keyL x).length+32*i by rw [keyL_len];omega,<-List.drop_drop,List.drop_left]
theorem man_keys {d:List UInt8} (h:d.length<=4096) (h0:d≠[]):keysL (manL d)=((cutL d).map keyL,(d.length:Int),0):=by
 have hd:1<=d.length:=by cases d <;> simp_all
 have hn:Cd.numL (d.length:Int)=Cd.numU d.length:=by unfold Cd.numL;rw [AH (by omega)]
 have hr:Cd.rnumR (manL d)=((cutL d).flatMap keyL,0,d.length):=by unfold manL;rw [hn,KQ (by omega)]
 have ht:Cd.toI d.length=(d.length:Int):=by unfold Cd.toI;omega
 have hne:manL d≠[]:=by unfold manL;rw [hn];unfold Cd.numU;simp
 rw [xB hne (by rw [hr]) (by rw [hr];show 1<=Cd.toI d.length;omega) (by rw [hr];show Cd.toI d.length<=4096;omega) (by rw [hr];show ((cutL d).flatMap keyL).length=_;rw [Ns,og]),hr];dsimp only;rw [ht,<-og,KT]
theorem nM.keys (m:List UInt8):nM (keysL m).1:=by
 intro x hx;unfold keysL at hx;split at hx
 ·cases hx
 ·split at hx
  ·unfold kO at hx
   obtain ⟨i,_,rfl⟩:=aU.1 hx;unfold oG;rw [aR];omega
  ·cases hx
theorem missing_any {d pb kb q u:Nat} {fs:Files} {w:World} (h:StI w d pb kb q u fs) (m:Bytes) (hm:m.length<=1000000) (hk:(keysL m).2.2=0) (hall:∀k∈(keysL m).1,(Fm.get fs k).isSome=true):
  Calls prog 138 #[Qp d,m] w (dM w (.tuple #[(),qn])):=by
 have HK:=dL (rY m hm w);have H:=dL h;have aes:=dL hall;clear h hall;go_enter func138,ntmps138;go_wp2_with fail;refine HK.o.mono ?_;rintro e w1 ⟨v,rfl,ho,dV⟩;obtain ⟨A,c,rfl,hs⟩:=ho.strs (nM.keys m);obtain ⟨ks,hks⟩:=dG ((keysL m).1);rw [<-hks] at hs;rw [hk,<-hks];obtain ⟨kn,hkn⟩:=dG ((keysL m).2.1);rw [<-hkn];have hmax:ks.length<=9223372036854775807:=aI hs.le hs.max;have hs1:=H.o.later dV;have q2:w1.cell? (Qc d 2)=some (.map (some pb)):=hs1.blk.cell 2;have HS:=dL hs;have r8:=dL hs1;have eR:=dL dV;have VO:=dL hks;clear hs hs1 dV hks ho hkn hk;go_wp2_with fail;go_loopw [9,27] (λo i wr=>∃k:Nat,k<=ks.length/\o=.slice none 0 0/\i=.int .i64 (k:Nat)/\wr=w1) (λ_ i _=>ks.length - (intOf i).toNat)
 case atStart=>exact ⟨0,aS _,rfl,rfl,rfl⟩
 case round=>
  obtain ⟨k,hk2,rfl,rfl,rfl⟩:=hrel;rcases aD k ks.length with hlt|hge
  ·obtain ⟨b,off,rfl,agV,hcell,hml⟩:=HS.o.at_ hlt
   have hsome:=aes.o (ks[k]) (by rw [<-VO.o];exact aa hlt);have hlk:=r8.o.fs.look2 underlying191 underlying9 uO ks[k];rw [hsome] at hlk;clear hsome;go_wp2_with fail;exact ⟨⟨k+1,hlt,rfl,by go_num,trivial⟩,by simp [intOf];omega⟩
  ·have hnot:decide (k < ks.length)=false:=by simp;omega
   go_wp2_with fail;go_ret2;exact ⟨rfl,eR.o⟩
end Pt
namespace Pt
open Go.RowKit
attribute [local go_sem] dR dO dS dP
def Z0 (n:Int) (s k:List UInt8) (i:Nat):Prop:=(s.length:Int)=min (n - 256*i) 256/\keyL s=k
def KU (n:Int) (l ks:List (List UInt8)) (k:Nat):Prop:=∀i (h:i < l.length) (h':i < ks.length),i < k->Z0 n l[i] ks[i] i
open Classical in
noncomputable def joinJ (K:List (List UInt8)×Int×Int) (l:List (List UInt8)):List UInt8×Int:=
 if K.2.2≠0 then ([],K.2.2) else if l.length≠K.1.length then ([],13) else if KU K.2.1 l K.1 l.length then (l.flatten,0) else ([],13)
variable {ks l:List (List UInt8)} {n:Int}
theorem KW {e:Int} (h:e≠0):joinJ (ks,n,e) l=([],e):=by unfold joinJ;rw [if_pos h]
theorem KX (h:l.length≠ks.length):joinJ (ks,n,0) l=([],13):=by unfold joinJ;rw [if_neg (by simp),if_pos h]
theorem joinJ_ok (h:l.length=ks.length) (hk:KU n l ks l.length):joinJ (ks,n,0) l=(l.flatten,0):=by unfold joinJ;rw [if_neg (by simp),if_neg (by simpa using h),if_pos hk]
theorem KY (h:l.length=ks.length) {i:Nat} (hi:i < l.length) (hi':i < ks.length) (hk:¬ Z0 n l[i] ks[i] i):joinJ (ks,n,0) l=([],13):=by
 unfold joinJ;rw [if_neg (by simp),if_neg (by simpa using h),if_neg (λhh=>hk (hh i hi hi' hi))]
theorem KZ {k:Nat} (h:KU n l ks k) (hl:k < l.length) (hk:k < ks.length) (ho:Z0 n l[k] ks[k] k):KU n l ks (k+1):=λi hi hi' hlt=>by
 rcases aD i k with h1|h1
 ·exact h i hi hi' h1
 ·obtain rfl:i=k:=by omega
  exact ho
theorem AS {k:Nat} (hl:k < l.length):(l.take (k+1)).flatten=(l.take k).flatten++l[k]:=by
 rw [ay hl,List.flatten_append];simp
theorem Di {n:Int} {l ks:List (List UInt8)} (h:l.length=ks.length):∀{k:Nat},k<=l.length->KU n l ks k->((l.take k).flatten).length<=256*k
 |0,_,_=>by simp
 |k+1,hk,ho=>by
  rw [AS (by omega),aP];have h1:=Di h (k:=k) (by omega) (λi a b c=>ho i a b (by omega));have h2:=(ho k (by omega) (by omega) (by omega)).1;omega
def mo (w:World) (K:List (List UInt8)×Int×Int) (l:List (List UInt8)) (e:Ending) (w':World):Prop:=e=.returned (.tuple #[.string (bs (joinJ K l).1),.int .i64 (joinJ K l).2])/\Below w w w'
variable {K:List (List UInt8)×Int×Int}
theorem mo.no{w w':World} {e:Int} (h:joinJ K l=([],e)) (hb:Below w w w'):mo w K l (.returned (.tuple #[yj,e])) w':=by
 unfold mo;rw [h];exact ⟨rfl,hb⟩
variable {s:List UInt8}
theorem mo.yes{w w':World} (h:joinJ K l=(s,0)) (hb:Below w w w'):mo w K l (.returned (.tuple #[s,qn])) w':=by
 unfold mo;rw [h];exact ⟨rfl,hb⟩
theorem Dj (m:List UInt8):(keysL m).2.2=0->∃N:Nat,(keysL m).2.1=N/\N<=4096/\(keysL m).1.length=pieces N:=by
 by_cases h0:m=[]
 ·subst h0;exact λ_=> ⟨0,rfl,by omega,rfl⟩
 ·by_cases h:(Cd.rnumR m).2.1=0/\1<=Cd.toI (Cd.rnumR m).2.2/\Cd.toI (Cd.rnumR m).2.2<=4096/\(Cd.rnumR m).1.length=32*pieces (Cd.rnumR m).2.2
  ·obtain ⟨h1,h2,h3,h4⟩:=h
   have hs:=AF (DV m) h2 h3;rw [xB h0 h1 h2 h3 h4];exact λ_=> ⟨(Cd.rnumR m).2.2,hs,by omega,AG _ _⟩
  ·rw [oh h0 h]
   intro h;cases h
theorem GC{W:World} (x:eE W) (hs:s.length<=100000) {K:List UInt8} (hK:keyL s=K):Calls prog 179 #[s] x.wd λe w'=>e=.returned K/\∃y:eE W,w'=y.wd:=gX (by rw [<-hK];exact key_c s hs x.wd)
theorem Nu (m:List UInt8) (hm:m.length<=1000000) (A:Option Addr) (n c:Nat) (l:List (List UInt8)) (w:World) (hx:Strs w A n c l) (hs:∀s∈l,s.length<=100000):
  Calls prog 140 #[m,Qq A n c] w (mo w (keysL m) l):=by
 have hK:=rY m hm w;have hF:=Dj m;have hsh:=nM.keys m;unfold jO at hK;generalize keysL m=K at*;obtain ⟨ks,nn,ee⟩:=K;dsimp only at hK hF hsh;have hn:=hx.len;have lg:=hx.max;have hle:=hx.le;have HK:=dL hK;have HX:=dL hx;have yQ:=dL hsh;have HS:=dL hs;clear hK hx hsh hs;by_cases he:ee=0
 case neg=>
  have hne:(ee != 0)=true:=by simpa using he
  have HJ:=dL (KW (ks:=ks) (n:=nn) (l:=l) he);clear he hF;go_enter func140,ntmps140;go_wp2_with fail;refine HK.o.mono ?_;rintro e w1 ⟨v1,rfl,Qn,dV⟩;have eR:=dL dV;clear Qn dV;go_wp2_with fail;go_ret2;exact mo.no HJ.o eR.o
 subst he;obtain ⟨N,rfl,hN,hkl⟩:=hF rfl;clear hF;by_cases hlen:n=ks.length
 case neg=>
  have hne:((n:Int) != (ks.length:Int))=true:=by rw [bne_iff_ne];omega
  have HJ:=dL (KX (ks:=ks) (n:=N) (l:=l) (by omega));clear hkl hlen;go_enter func140,ntmps140;go_wp2_with fail;refine HK.o.mono ?_;rintro e w1 ⟨v1,rfl,Qn,dV⟩;obtain ⟨A1,c1,rfl,vR⟩:=fm.strs Qn yQ.o;have eR:=dL dV;have aet:=vR.max;have hle1:=vR.le;clear Qn dV vR;go_wp2_with fail;go_ret2;exact mo.no HJ.o eR.o
 have hne:((n:Int) != (ks.length:Int))=false:=by rw [bne_eq_false_iff_eq];omega
 have CW:=dL hlen;have ZG:=dL hkl;have HN:=dL hn;have hnn:n<=17:=by rw [hlen,hkl];unfold pieces;omega
 clear hkl hlen;go_enter func140,ntmps140;go_wp2_with fail;refine HK.o.mono ?_;rintro e w1 ⟨v1,rfl,Qn,dV⟩;obtain ⟨A1,c1,rfl,vR⟩:=fm.strs Qn yQ.o;have eR:=dL dV;have yS:=(aC w1 w1).alloc (aB _) (.cells #[.pointer none,()] 261);have rJ:=dL vR;have ZH:=dL (HX.o.below dV);have aet:=vR.max;have hle1:=vR.le;have kE:=Bld.fresh w1;obtain ⟨w0,hw0⟩:=dG (w1.alloc (.cells #[.pointer none,()] 261));obtain ⟨b0,hb0⟩:=dG w1.heap.size;have hs0:b0 < w0.heap.size:=by rw [hw0,hb0];simp
 rw [<-hw0] at yS kE;rw [<-hb0] at kE yS;have HW:=dL hw0;have HQ:=dL hb0;have yM:=dL yS;have oO:=dL kE;have XW:w.heap.size<=b0:=by rw [hb0];exact dV.size
 clear Qn dV vR yS kE hw0 hb0;go_upto_region 7 with (fail);rw [<-HW.o,<-HQ.o];clear hne;go_wp2_with fail;go_loopw [7,30] (λt i wr=>∃k:Nat,k<=n/\i=.int .i64 k/\t=.int .i64 (max ((N:Int) - 256*k) 0)/\KU N l ks k/\Bld wr b0 b0 (l.take k).flatten/\Below b0 w1 wr/\b0<=wr.heap.size/\Below w w wr) (λ_ i _=>n - (intOf i).toNat)
 case atStart=>exact ⟨0,by omega,rfl,by simp,(λi _ _ h=>by omega),oO.o,yM.o,by omega,eR.o.trans (yM.o.mono XW)⟩
 case round=>
  obtain ⟨k,hk,rfl,rfl,ho,pM,vQ,Je,nI⟩:=hrel;have hb:Below w1 w1 wr:=by rw [<-HQ.o];exact vQ
  rcases aD k n with hlt|hge
  ·have hkl:k < l.length:=by omega
   have hkk:k < ks.length:=by have:=CW.o;omega
   have JR:=CW.o;have hkP:=pQ.1 (show k < pieces N by rw [<-ZG.o];exact hkk);obtain ⟨b,off,rfl,jW,c0,_⟩:=Strs.at_ (ZH.o.below hb) hkl;obtain ⟨b2,off2,rfl,CX,d0,_⟩:=Strs.at_ (rJ.o.below hb) hkk;have hfl:=Di (n:=N) (by omega:l.length=ks.length) (by omega) ho;have CP:=HS.o l[k] (aa hkl);have XX:=dL (λh:¬ Z0 N l[k] ks[k] k=>KY (by omega) hkl hkk h);have HOk:=dL (λh:Z0 N l[k] ks[k] k=>KZ ho hkl hkk h);have HFl:=dL (AS hkl);have HKy:=dL (λx:eE wr=>GC x CP rfl);have oT:=dL pM;have Hbr:=dL vQ;have VP:=dL nI;have hmax:max ((N:Int) - 256*(k:Int)) 0=(N:Int) - 256*(k:Int):=by omega
   rw [hmax];have abE:max ((N:Int) - 256*((k+1:Nat):Int)) 0=((N:Int) - 256*(k:Int)) - min ((N:Int) - 256*(k:Int)) 256:=by omega
   have afY:(1:Int)<=(N:Int) - 256*(k:Int):=by omega
   have afZ:(N:Int) - 256*(k:Int)<=4096:=by omega
   clear ho hb pM vQ nI hmax;unfold Z0 at XX HOk;generalize l[k]=s at*;generalize ks[k]=ky at*;generalize (l.take k).flatten=acc at*;have hki:(k:Int) < (n:Int):=by omega
   have agu:acc.length<=5000:=by omega
   have agv:(k:Int) < (ks.length:Int):=by omega
   have aeu:=dL abE;clear abE;generalize (N:Int) - 256*(k:Int)=lf at*;have l0:=λx:eE wr=>x.cell c0
   have l1:=λx:eE wr=>x.cell d0
   obtain ⟨mn,hmn⟩:∃mn:Int,mn=min lf 256:=⟨_,rfl⟩;have aev:min lf 256=mn:=hmn.symm;by_cases h1:(s.length:Int)=mn
   case neg=>
    have hq:(((s.length:Nat):Int) != mn)=true:=by simpa using h1
    have HJ:=dL (XX.o (λh=>h1 (h.1.trans hmn.symm)));clear h1 hmn hkl hkk JR CP hkP;go_upto_region 10 with (fail);refine eo (by kernel_rfl) (by kernel_rfl) ?_;repeat (go_big_quiet_step (fail))
    refine wpQuiet_nil ?_;clear l0 l1;rintro _ ⟨x2,rfl⟩;have HBx:=dL (VP.o.trans (x2.below.mono VP.o.size));go_wp2_with fail;go_ret2;exact mo.no HJ.o HBx.o
   have hq:(((s.length:Nat):Int) != mn)=false:=by simpa using h1
   have ZI:=dL (h1.trans hmn);by_cases h2:keyL s=ky
   case neg=>
    have HJ:=dL (XX.o (λh=>h2 h.2));have q1:(keyL s ==ky)=false:=by simpa using h2
    generalize keyL s=ks2 at*;clear h1 hmn hkl hkk JR CP hkP;go_upto_region 10 with (fail);refine eo (by kernel_rfl) (by kernel_rfl) ?_;repeat (go_big_quiet_step ((go_at_call 179;exact HKy.o _)))
    refine wpQuiet_nil ?_;clear l0 l1;rintro _ ⟨x2,rfl⟩;have HBx:=dL (VP.o.trans (x2.below.mono VP.o.size));go_wp2_with fail;go_ret2;exact mo.no HJ.o HBx.o
   have HJ:=dL (HOk.o ⟨ZI.o,h2⟩);rw [h2] at HKy;have agw:(s.length:Int)<=256:=by omega
   clear h1 hmn hkl hkk JR h2 hkP;go_upto_region 10 with (fail);refine eo (by kernel_rfl) (by kernel_rfl) ?_;repeat (go_big_quiet_step ((go_at_call 179;exact HKy.o _)))
   refine wpQuiet_nil ?_;clear l0 l1;rintro _ ⟨x2,rfl⟩;have HBx:=dL (Below.trans Hbr.o (x2.below.mono Je));have HBy:=dL (Below.trans VP.o (x2.below.mono VP.o.size));have vT:=dL (Bld.below oT.o x2.below);have hs5:b0<=x2.wd.heap.size:=aI Je x2.below.size;generalize x2.wd=w5 at*;clear x2 aev hq;go_wp2_with fail;refine (write_any b0 b0 acc s w5 vT.o (by omega) hs5).mono ?_;rintro e w6 ⟨rfl,adF,jr,_⟩;have zY:=dL adF;have jt:=dL (Below.trans HBx.o jr);have aew:=dL (Below.trans HBy.o (jr.mono XW));have hs6:b0<=w6.heap.size:=aI hs5 jr.size;clear adF jr;go_wp2_with fail;exact ⟨⟨k+1,by omega,by go_num,by rw [aeu.o,ZI.o],HJ.o,by rw [HFl.o];exact zY.o,jt.o,hs6,aew.o⟩,by simp [intOf];omega⟩
  ·obtain rfl:k=n:=by omega
   have hkn:¬ (k:Int) < (k:Int):=by omega
   have dy:(l.take k).flatten=l.flatten:=by rw [af (by omega)]
   rw [dy] at pM;have HJ:=dL (joinJ_ok (ks:=ks) (n:=N) (l:=l) (by have:=CW.o;omega) (by rw [HN.o];exact ho));have oT:=dL pM;have VP:=dL nI;clear hb ho dy pM vQ nI;go_wp2_with fail;refine (string_any b0 b0 l.flatten wr oT.o Je).mono ?_;rintro e w4 ⟨rfl,hb4⟩;have fI:=dL (VP.o.trans (hb4.mono XW));clear hb4;go_wp2_with fail;go_ret2;exact mo.yes HJ.o fI.o
end Pt
end Go.Proofs.YtgdaahffmcfhpaaGreatDoor
