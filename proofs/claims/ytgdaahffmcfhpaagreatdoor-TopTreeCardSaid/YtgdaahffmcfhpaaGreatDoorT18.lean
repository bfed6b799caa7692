/- Lemmas on the way: QTail PRc PMw PMp PSt PPu PMk PJo. -/
import Derived.Deep.Quiet
import Derived.Test.YtgdaahffmcfhpaaGreatDoorT14
import Derived.Test.YtgdaahffmcfhpaaGreatDoorT17
import Derived.Test.YtgdaahffmcfhpaaGreatDoorT00
set_option maxRecDepth 100000
set_option maxHeartbeats 8000000
namespace Go.Proofs.YtgdaahffmcfhpaaGreatDoor
open Tryz
section
open Go.RowKit
section
variable {P:Program} {ops:Array Oper} {md:Region.Mode} {C:World->Prop}
def qn (P:Program) (md:Region.Mode) (ops:Array Oper) (C:World->Prop) (n:Nat) (L:Array Bool->Act->Prop):Nat->Array Bool->Act->Prop
 |0,listed,a=>L listed a
 |f+1,listed,a=>
  Region.ready md ops listed≠[]/\∀i∈Region.ready md ops listed,i < n/\qOp P ops C i (qn P md ops C n L f (listed.setIfInBounds i true)) a
theorem oC {n g:Nat} {L:Array Bool->Act->Prop} {Q':Exit->Act->World->Prop} (hL:∀listed a w,C w->L listed a->wpAny P md ops Q' g listed a w):
  ∀(f:Nat) (listed:Array Bool) (a:Act) (w:World),C w->qn P md ops C n L f listed a->wpAny P md ops Q' (f+g) listed a w
 |0,listed,a,w,hw,h=>by rw [aY];exact hL _ _ _ hw h
 |f+1,listed,a,w,hw,h=>by
  rw [show f+1+g=(f+g)+1 by omega];exact ⟨fun h0=>absurd h0 h.1,fun i hi=>wpOp_of_qOp hw (fun a' w' Og h'=>oC hL f _ a' w' Og h') (h.2 i hi).2⟩
theorem xX {n i:Nat} {oi:Oper} {v:Value} {L:Array Bool->Act->Prop} (hi:ops[i]? =some oi) (hsel:∀(j:Nat) (o:Oper) cs b,ops[j]? =some o->o.op≠.select cs b)
  (hs:Region.sinkB md ops n=true) (hc:Region.chainB md ops n=true) (hn:n < ops.size) (hin:i < n)
  (hdone:∀listed a,L listed a->∀j∈Region.ready md ops listed,n<=j):
  ∀(f:Nat) (listed:Array Bool) (a:Act),HeadInv md ops n listed->
   (∀j oj,ops[j]? =some oj->j≠i->listed.getD j true=false->(∀e∈oj.after,Region.binds md e=true->e.on≠i)->oi.apart ops oj=true)->
   i∈Region.ready md ops listed->YieldsIn P ops C oi v a->
   qn P md ops C n L f (listed.setIfInBounds i true) (a.put oi.dst v)->qn P md ops C n L (f+1) listed a:=by
 intro f;induction f with
 |zero=>
  intro listed a inv _ hr hy H;have hun:=(mem_ready.1 hr).1;refine ⟨fun h=>(by rw [h] at hr;cases hr),fun j hj=>?_⟩;have hjn:j < n:=by
   rcases aG j n with h|h
   ·exact h
   ·exact absurd hj (tail_waits hs hc hn inv _ i rfl hin hun j h)
  refine ⟨hjn,?_⟩;by_cases hji:j=i
  ·subst hji;exact hy.qOp hi H
  ·have:=hdone _ _ H j (ready_mono hj hji)
   omega
 |succ f ih=>
  intro listed a inv hfree hr hy H;have hun:=(mem_ready.1 hr).1;refine ⟨fun h=>(by rw [h] at hr;cases hr),fun j hj=>?_⟩;have hjn:j < n:=by
   rcases aG j n with h|h
   ·exact h
   ·exact absurd hj (tail_waits hs hc hn inv _ i rfl hin hun j h)
  refine ⟨hjn,?_⟩;by_cases hji:j=i
  ·subst hji;exact hy.qOp hi H
  ·have h1:=(H.2 j (ready_mono hj hji)).2
   obtain ⟨aaw,oj,hoj,hall⟩:=mem_ready.1 hj;have hnot:∀e∈oj.after,Region.binds md e=true->e.on≠i:=fun e he hb heq=>by
    have h1:=hall e he hb;rw [heq,getD_both hun] at h1;cases h1
   have h2:=qOp_put hoj (hfree j oj hoj hji aaw hnot) (fun cs b=>hsel i oi cs b hi) (fun cs b=>hsel j oj cs b hoj) hy h1;have Uw:∀k ok,ops[k]? =some ok->k≠i->(listed.setIfInBounds j true).getD k true=false->
     (∀e∈ok.after,Region.binds md e=true->e.on≠i)->oi.apart ops ok=true:=fun k ok hk hki hun hno=>by
    refine hfree k ok hk hki ?_ hno;by_cases hjk:j=k
    ·subst hjk;exact aaw
    ·rw [getD_set_ne true hjk] at hun;exact hun
   refine qOp_mono (fun a' h3=>ih (listed.setIfInBounds j true) a' (inv.set hj hjn) Uw (ready_mono hr (Ne.symm hji)) h3.1 ?_) h2;rw [Array.setIfInBounds_comm _ _ hji];exact h3.2
theorem tE {n g:Nat} {Lq:Act->Prop} (hsel:Region.noSelect ops=true) (hs:Region.sinkB md ops n=true) (hc:Region.chainB md ops n=true) (hn:n < ops.size):
  ∀(l:List Oper) (k:Nat) (listed:Array Bool) (a:Act),(∀j,j < l.length->l[j]? =ops[k+j]?)->k+l.length=n->HeadInv md ops n listed->
  Region.lexHead md ops g l.length k listed=true->wpQuiet P ops C Lq l a->
  qn P md ops C n (fun IG a'=>Region.seqB md ops g n IG=true/\Lq a') l.length listed a
 | [],k,listed,a,_,hk,_,hB,h=>by
  have:k=n:=by simpa using hk
  subst this;exact ⟨by simpa [Region.lexHead] using hB,h⟩
 |o :: l,k,listed,a,hl,hk,inv,hB,h=>by
  have h0:ops[k]? =some o:=by simpa using (hl 0 (by simp)).symm
  simp only [aQ,Region.lexHead,bL] at hB;obtain ⟨⟨hr,hf⟩,Sh⟩:=hB;have hkn:k < n:=by simp only [aQ] at hk;omega
  have hr':k∈Region.ready md ops listed:=by simpa using hr
  have hst:qOp P ops C k (wpQuiet P ops C Lq l) a:=by unfold qOp;simp only [h0];exact h
  obtain ⟨v,hy,hK⟩:=yieldsIn_of_qOp h0 hst;exact xX h0 (Region.noSelect_spec hsel) hs hc hn hkn (fun IG a' hL=>seqB_ready hL.1) l.length listed a inv (Region.free_spec h0 hf) hr' hy
   (tE hsel hs hc hn l (k+1) _ _ (fun j hj=>by have:=hl (j+1) (by simp;omega);simpa [bh,Nat.add_comm 1 j] using this) (by simp only [aQ] at hk;omega) (inv.set hr' hkn) Sh hK)
theorem gd {id:Nat} {Q:Exit->Act->World->Prop} {a:Act} {w:World} {l:List Oper} (n:Nat) (hm:P.follows .mixedOrders=true) (hB:Region.lexTailB .any l.toArray n=true) (hC:C { w with drawn:=w.drawn+1 })
  (h:wpQuiet P l.toArray C (fun a'=>∀w',C w'->wpList P l.toArray Q (l.drop n) a' w') (l.take n) a):(Code.region id l.toArray true).wp P Q a w:=by
 simp only [Region.lexTailB,bL,decide_eq_true_eq] at hB;obtain ⟨⟨⟨⟨hsel,hn⟩,hs⟩,hc⟩,acA⟩:=hB;have hn':n < l.length:=by simpa using hn
 have htl:(l.take n).length=n:=by simp;omega
 have Bb:(l.drop n).length=l.toArray.size - n:=by simp
 have abe:HeadInv .any l.toArray n (Array.replicate l.toArray.size false):=
  ⟨by simp,fun j oj _ hl=>(by rw [getD_replicate_false] at hl;cases hl),fun t _ ht=>getD_in (by simpa using ht) (getD_replicate_false _ _)⟩
 have H:=tE (md:=.any) (g:=l.toArray.size - n) hsel hs hc hn (l.take n) 0 _ a (fun j hj=>by
  have hj':j < n:=by rw [htl] at hj;exact hj
  simp [hj']) (by simpa using htl) abe (by rw [htl];exact acA) h
 refine wp_region_any hm ?_;have:=oC (Q':=Q) (g:=l.toArray.size - n) (fun listed a' w' Og hL=>by
  have:=wpAny_of_seq (md:=.any) (Q':=Q) (l.drop n) n listed a' w' (fun j=>by simp [List.getElem?_drop]) (by rw [Bb];exact hL.1) (hL.2 w' Og)
  rwa [Bb] at this) _ _ _ _ hC H
 rw [htl,show n+(l.toArray.size - n)=l.toArray.size by omega] at this;exact this
theorem lT {id:Nat} {Q:Exit->Act->World->Prop} {a:Act} {w:World} {l:List Oper} (n:Nat) (hm:P.follows .mixedOrders=true) (hB:Region.lexTailB .any l.toArray n=true)
  (h:wpQuiet P l.toArray (fun w'=>∃x:dm w,w'=x.wd) (fun a'=>∀w',(∃x:dm w,w'=x.wd)->wpList P l.toArray Q (l.drop n) a' w') (l.take n) a):(Code.region id l.toArray true).wp P Q a w:=
 gd (C:=fun w'=>∃x:dm w,w'=x.wd) n hm hB ⟨⟨_,(aC _ _).drew⟩,rfl⟩ h
end
end
namespace Pt
open Go.RowKit
attribute [local go_sem] dO dL dQ dM
def Lr (d:List UInt8) (k:Nat):List (List UInt8):=(List.range k).map (piece d)
theorem Iy (d:List UInt8) (k:Nat):Lr d (k+1)=Lr d k++[piece d k]:=by simp [Lr,List.range_succ]
end Pt
namespace Pt
open Go.RowKit
attribute [local go_sem] dO dL dQ dM
def rz (w:World) (d:List UInt8) (e:Ending) (w':World):Prop:=e=.returned (.tuple #[.string (bs (if d.length<=4096/\d≠[] then manL d else [])),.int .i64 (if d.length<=4096 then 0 else 40)])/\Below w.heap.size w w'
theorem rz.big {w w':World} {d:List UInt8} (h:¬ d.length<=4096) (hb:Below w.heap.size w w'):rz w d (.returned (.tuple #[.string ⟨#[]⟩,.int .i64 40])) w':=by
 unfold rz;rw [if_neg (fun h'=>h h'.1),if_neg h];exact ⟨rfl,hb⟩
theorem rz.nil_ {w w':World} (hb:Below w.heap.size w w'):rz w [] (.returned (.tuple #[.string ⟨#[]⟩,.int .i64 0])) w':=by
 unfold rz;exact ⟨rfl,hb⟩
theorem rz.yes {w w':World} {d:List UInt8} (h:d.length<=4096) (h0:d≠[]) {s:List UInt8} (hs:s=manL d) (hb:Below w.heap.size w w'):rz w d (.returned (.tuple #[.string (bs s),.int .i64 0])) w':=by
 unfold rz;rw [if_pos ⟨h,h0⟩,if_pos h,hs];exact ⟨rfl,hb⟩
def sA (d:List UInt8) (k:Nat):List UInt8:=Cd.numL d.length++(Lr d k).flatMap keyL
theorem yp (d:List UInt8):sA d 0=Cd.numL d.length:=by simp [sA,Lr]
theorem yq (d:List UInt8) (k:Nat):sA d (k+1)=sA d k++keyL (piece d k):=by
 unfold sA;rw [Iy,List.flatMap_append,bK];simp
theorem Ls (d:List UInt8):sA d (pieces d.length)=manL d:=rfl
theorem CZ (d:List UInt8) (k:Nat):(sA d k).length<=9+32*k:=by
 have h9:(Cd.numL (d.length:Int)).length<=9:=Cd.numU_len _;induction k with
 |zero=>rw [yp];omega
 |succ k ih=>rw [yq,aO,keyL_len];omega
end Pt
namespace Pt
open Go.RowKit
attribute [local go_sem] dO dL dQ dM
theorem Lt {w w':World} {B B0 b:Nat} {l:List UInt8} {v:Value} {n:Nat} {xs:List Value} (h:w.ownsRow B 9 1 v n xs) (hB:Bld w B0 b l) (hk:Lib.OthersKept 5 (some b) w w'):w'.ownsRow B 9 1 v n xs:=by
 refine ⟨h.1,?_⟩;rcases h.2 with hn| ⟨g,cap,cur,rfl,hb,hg,hnc,hcm,hcs,ht⟩
 ·exact .inl hn
 ·refine .inr ⟨g,cap,cur,rfl,hb,hk g _ hg (fun e=>?_) (fun c fz e=>?_),hnc,hcm,hcs,ht⟩
  ·obtain rfl:=aa e
   rcases hB with hB|hB
   ·obtain ⟨_,u,hu,_⟩:=hB;rw [hg] at hu;cases hu
   ·obtain ⟨_,u,hu,_⟩:=hB;rw [hg] at hu;cases hu
  ·cases e
theorem mE {w w':World} {B:Nat} {e:TypeId} {size:Nat} {v:Value} {n:Nat} {xs:List Value} (h:w.ownsRow B e size v n xs) (hb:Below w.heap.size w w'):w'.ownsRow B e size v n xs:=
 h.kept (eo hb none) (by
  rcases h.2 with ⟨rfl,_⟩| ⟨g,cap,cur,rfl,_⟩
  ·exact .inl rfl
  ·exact .inr (by simp [Value.ownBlock]))
theorem Bld.below {w w':World} {B b:Nat} {l:List UInt8} (h:Bld w B b l) (hb:Below w.heap.size w w'):Bld w' B b l:=by
 have go:∀p,Lib.BuilderAt 261 5 B b p (bv l) w->Lib.BuilderAt 261 5 B b p (bv l) w':=fun p ⟨h1,v,h2,h3,h4⟩=>
  ⟨h1,v,(hb.block b (by
   rcases aG b w.heap.size with h'|h'
   ·exact h'
   ·rw [ak h'] at h2;cases h2)).trans h2,mE h3 hb,h4⟩
 rcases h with h|h
 ·exact .inl (go _ h)
 ·exact .inr (go _ h)
theorem man_any (d:List UInt8) (hd:d.length<=1000000) (w:World):Calls prog 117 #[.string (bs d)] w (rz w d):=by
 by_cases hbig:d.length<=4096
 case neg=>
  have hq:decide ((d.length:Int) > 4096)=true:=decide_eq_true (by omega);have HB:=dH hbig;clear hbig;go_enter func117,ntmps117;go_wp2_with fail;go_ret2;exact rz.big HB.o (aC _ _)
 have hq:decide ((d.length:Int) > 4096)=false:=decide_eq_false (by omega);by_cases h0:d=[]
 ·subst h0
  go_enter func117,ntmps117;go_wp2_with fail;go_ret2;exact rz.nil_ (aC _ _)
 have hem:d.isEmpty=false:=by cases d <;> simp_all
 have H0:=dH h0;have abf:=dH hbig;have BB:=dH (fun w=>Cd.num_c (d.length:Int) w (by omega));rw [<-yp] at BB;have hsh:=CK d;have BD:=dH hsh;have abg:=dH (cut_any d hd);have G5:=dH (fun (s:List UInt8) (h:s.length<=256) (w:World)=>key_c s (by omega) w);have hpl:pieces d.length<=16:=by unfold pieces;omega
 have hcl:=nt d;have qK:=(aC w.heap.size w).alloc (aB _) (.cells #[.pointer none,.slice none 0 0] 261);have iZ:=Bld.fresh w;have hm0:=CZ d 0;obtain ⟨w0,hw0⟩:=dB (w.alloc (.cells #[.pointer none,.slice none 0 0] 261));obtain ⟨b0,hb0⟩:=dB w.heap.size;have hs0:b0 < w0.heap.size:=by rw [hw0,hb0];simp
 rw [<-hw0] at qK iZ;rw [<-hb0] at iZ;have HW:=dH hw0;have HQ:=dH hb0;have wY:=dH qK;have qM:=dH iZ;clear h0 hbig hsh hw0 hb0 qK iZ;go_enter func117,ntmps117;go_upto_region 6 with (fail);rw [<-HW.o,<-HQ.o];go_wp2_with fail;refine (BB.o w0).mono ?_;rintro e w1 ⟨rfl,dR⟩;have eH:=dF wY dR;have abh:=dH (Bld.below qM.o dR);have hs1:b0<=w1.heap.size:=aK (ay hs0) dR.size;clear dR;go_wp2_with fail;refine (write_any b0 b0 [] (sA d 0) w1 abh.o (by simp;omega) hs1).mono ?_;rintro e w2 ⟨rfl,WQ,dS,_⟩;rw [af] at WQ;have eG:=dH (eH.o.trans (dS.mono (by rw [HQ.o];exact aB _)));have hs2:b0<=w2.heap.size:=aK hs1 dS.size;have nH:=dH WQ;clear dS WQ;go_wp2_with fail;refine (abg.o w2).mono ?_;rintro e w3 ⟨v3,rfl,hO,di⟩;have mP:=dH (Bld.below nH.o di);have dw:=dF eG di;have hs3:b0<=w3.heap.size:=aK hs2 di.size;obtain ⟨A,c,rfl,hS⟩:=fZ.strs (dN.of_row hO) BD.o;have HO:=dH hO;have qJ:=hS.max;have hle:=hS.le;have BA:=dH hcl;clear hO di hS hcl;go_wp2_with fail;go_loopw [21] (fun i wr=>∃k:Nat,k<=(cutL d).length/\i=.int .i64 k/\Bld wr b0 b0 (sA d k)/\wr.ownsRow w2.heap.size 9 1 (.slice A (cutL d).length c) (cutL d).length (strs (cutL d))/\Below b0 w wr/\b0<=wr.heap.size) (fun i _=>(cutL d).length - (intOf i).toNat)
 case atStart=>exact ⟨0,by omega,rfl,mP.o,HO.o,by rw [HQ.o];exact dw.o,hs3⟩
 case round=>
  obtain ⟨k,hk,rfl,nJ,hOr,qS,Bh⟩:=hrel;rcases aG k (cutL d).length with hlt|hge
  ·obtain ⟨A',c',he,hS⟩:=fZ.strs (dN.of_row hOr) BD.o
   cases he;obtain ⟨b,off,rfl,jY,c0,hm⟩:=Strs.at_ hS hlt;rw [Q0 hlt] at c0;have hki:(k:Int) < ((cutL d).length:Int):=by omega
   have HK:=dH (G5.o (piece d k) (ya d k) wr);have K6:=dH (yq d k);unfold keyL at K6;have EI:=CZ d k;have abi:(sA d k).length<=1000:=by have:=BA.o;omega
   have acR:((sumL (piece d k)).take 32).length<=32:=List.length_take_le _ _;have rH:=dH nJ;have HOr:=dH hOr;have Yy:=dH qS;clear nJ hOr qS EI hm hS;generalize (sumL (piece d k)).take 32=ky at*;generalize piece d k=pc at*;go_wp2_with fail;refine HK.o.mono ?_;rintro e w4 ⟨rfl,hb4⟩;have fD:=dH (Below.trans Yy.o (hb4.mono Bh));have Yz:=dH (Bld.below rH.o hb4);have sU:=dH (mE HOr.o hb4);have hs4:b0<=w4.heap.size:=aK Bh hb4.size;clear hb4;go_wp2_with fail;refine (write_any b0 b0 (sA d k) ky w4 Yz.o (by omega) hs4).mono ?_;rintro e w5 ⟨rfl,aaF,eu,hk5⟩;have fk:=dH (Below.trans fD.o eu);have Df:=dH (Lt sU.o Yz.o hk5);have hs5:b0<=w5.heap.size:=aK hs4 eu.size;have uJ:=dH aaF;clear aaF eu hk5;go_wp2_with fail;exact ⟨⟨k+1,by omega,by go_num,by rw [K6.o];exact uJ.o,Df.o,fk.o,hs5⟩,by simp [intOf];omega⟩
  ·have hkn:¬ (k:Int) < ((cutL d).length:Int):=by omega
   have eC:dG (sA d k=manL d):=dH (by rw [<-Ls];congr 1;have:=BA.o;omega);have rH:=dH nJ;have Yy:=dH qS;clear nJ hOr qS;go_wp2_with fail;refine (string_any b0 b0 (sA d k) wr rH.o Bh).mono ?_;rintro e w4 ⟨rfl,hb4⟩;have fD:=dH (show Below w.heap.size w w4 by rw [<-HQ.o];exact Below.trans Yy.o hb4);clear hb4;go_wp2_with fail;go_ret2;exact rz.yes abf.o H0.o eC.o fD.o
end Pt
namespace Pt
open Go.RowKit Fm
attribute [local go_sem] dO dL dQ dM
theorem Te (w:World):(Instr.makeMap 191 none).run prog w=.ok (.map (some w.heap.size)) (w.alloc (.map #[] 0)):=by simp [go_sem,Instr.makeMap]
theorem Tf (w:World):(Instr.makeMap 225 none).run prog w=.ok (.map (some w.heap.size)) (w.alloc (.map #[] 0)):=by simp [go_sem,Instr.makeMap]
structure StI (w:World) (d pb kb:Nat) (q u:Nat) (fs:Files):Prop where
 blk:Blk w d 227 #[.int .i64 (q:Nat),.int .i64 (u:Nat),.map (some pb),.map (some kb)]
 fs:Fs w pb fs
 kept:w.heap[kb]? =some (.map #[] 0)
 ne:kb≠pb
theorem StI.later {d pb kb q u:Nat} {fs:Files} {w w':World} (h:StI w d pb kb q u fs) (hb:Below w.heap.size w w'):StI w' d pb kb q u fs:=
 ⟨h.blk.below hb h.blk.lt,h.fs.below hb,(hb.block kb (by
  rcases aG kb w.heap.size with hlt|hge
  ·exact hlt
  ·have:=h.kept;rw [ak hge] at this;cases this)).trans h.kept,h.ne⟩
theorem new_any (n:Nat) (h1:1<=n) (h2:n<=16777216) (w:World):
  Calls prog 172 #[.int .i64 (n:Nat)] w fun e w'=>∃d pb kb,e=.returned (.tuple #[.pointer (some ⟨d,0,none⟩),.int .i64 0])/\StI w' d pb kb n 0 []/\Below w.heap.size w w'/\w.heap.size<=d/\w.heap.size<=pb/\w.heap.size<=kb:=by
 have xN:=Te w;have hm2:=Tf (w.alloc (.map #[] 0));have c1:decide ((n:Int) < 1)=false:=by simp;omega
 have c2:decide ((16777216:Int) < n)=false:=by simp;omega
 go_enter func172,ntmps172;go_wp2_with fail;go_ret2;refine ⟨w.heap.size+2,w.heap.size,w.heap.size+1,by simp,⟨?_,?_,?_,by omega⟩,?_,by omega,by omega,by omega⟩
 ·have:=Blk.new ((w.alloc (.map #[] 0)).alloc (.map #[] 0)) 227 #[.int .i64 (n:Nat),.int .i64 0,.map (some w.heap.size),.map (some (w.heap.size+1))]
  rwa [show ((w.alloc (.map #[] 0)).alloc (.map #[] 0)).heap.size=w.heap.size+2 from by simp] at this
 ·exact (Fs.new w).alloc _|>.alloc _
 ·have:=(Fs.new (w.alloc (.map #[] 0))).alloc (.cells #[.int .i64 (n:Nat),.int .i64 0,.map (some w.heap.size),.map (some (w.heap.size+1))] 227)
  rw [show (w.alloc (.map #[] 0)).heap.size=w.heap.size+1 from by simp] at this;exact this
 ·exact (((aC _ w).alloc (aB _) _).alloc (by simp) _).alloc (by simp;omega) _
theorem Lu (a:Nat) (x:Int) (w:World) (hc:w.cell? ⟨a,1,none⟩=some (.int .i64 x)):Calls prog 313 #[.pointer (some ⟨a,1,none⟩)] w fun e w'=>e=.returned (.int .i64 x)/\w=w':=by
 have hl:=run_call_load (P:=prog) func358 (by kernel_rfl) (by kernel_rfl) (by kernel_rfl) .i64 (by kernel_rfl) hc;go_enter func313,ntmps313;go_wp2_with fail;go_ret;exact ⟨rfl,rfl⟩
theorem QG (a:Nat) (x y s:Int) (w:World) (hc:w.cell? ⟨a,1,none⟩=some (.int .i64 x)) (hz:w.frozen? ⟨a,1,none⟩=false) (hs:wrap64 (x+y)=s):
  Calls prog 123 #[.pointer (some ⟨a,1,none⟩),.int .i64 y] w fun e w'=>e=.returned (.int .i64 s)/\w'=w.setCell ⟨a,1,none⟩ (.int .i64 s):=by
 have hl:=run_call_add (P:=prog) func189 (by kernel_rfl) (by kernel_rfl) (by kernel_rfl) .i64 (by kernel_rfl) (y:=y) (s:=s) hc hz (by rw [<-hs];simp [go_sem];rw [IntKind.wrap_i64];unfold wrap64;omega);go_enter func123,ntmps123;go_wp2_with fail;go_ret;exact ⟨rfl,rfl⟩
theorem Lv {d pb kb q u:Nat} {fs:Files} {w:World} (h:StI w d pb kb q u fs):Calls prog 249 #[.pointer (some ⟨d,0,none⟩)] w fun e w'=>e=.returned (.int .i64 (u:Nat))/\w=w':=by
 have HL:=dH (Lu d (u:Nat) w (h.blk.cell 1));clear h;go_enter func249,ntmps249;go_wp2_with fail;refine HL.o.mono ?_;rintro e w' ⟨rfl,rfl⟩;go_wp2_with fail;go_ret;exact ⟨rfl,rfl⟩
def SS (d pb kb:Nat) (i:Nat):Prop:=i=d\/i=pb\/i=kb
theorem StI.kp {S:Nat->Prop} {d pb kb q u:Nat} {fs:Files} {w w':World} (h:StI w d pb kb q u fs) (k:dY S w w') (hn:∀i,SS d pb kb i->¬ S i):StI w' d pb kb q u fs:=
 ⟨h.blk.kp k (hn d (.inl rfl)),(k.block pb h.fs.lt (hn pb (.inr (.inl rfl)))).trans h.fs,(k.block kb (by
  rcases aG kb w.heap.size with hlt|hge
  ·exact hlt
  ·have:=h.kept;rw [ak hge] at this;cases this) (hn kb (.inr (.inr rfl)))).trans h.kept,h.ne⟩
theorem StI.bnd {d pb kb q u:Nat} {fs:Files} {w:World} (h:StI w d pb kb q u fs):∀i,SS d pb kb i->i < w.heap.size:=fun i hi=>by
 rcases hi with rfl|rfl|rfl
 ·exact h.blk.lt
 ·exact h.fs.lt
 ·rcases aG i w.heap.size with hlt|hge
  ·exact hlt
  ·have:=h.kept;rw [ak hge] at this;cases this
end Pt
namespace Pt
open Go.RowKit Fm
attribute [local go_sem] dO dL dQ dM
theorem tF (w:World):(zeroValue 9).run prog w=.ok (.string ⟨#[]⟩) w:=zeroValue9 w
theorem put_any {d pb kb q u:Nat} {fs:Files} {w:World} (h:StI w d pb kb q u fs) (x:Bytes) (h1:1<=x.length) (h2:x.length<=256) (hno:Fm.get fs (keyL x)=none) (hu:u<=100000000) (hq:q<=16777216) (hfit:u+x.length<=q):
  Calls prog 174 #[.pointer (some ⟨d,0,none⟩),.string (bs x)] w fun e w'=>e=.returned (.tuple #[.string (bs (keyL x)),.int .i64 0])/\StI w' d pb kb q (u+x.length) (put fs (keyL x) x)/\dY (SS d pb kb) w w':=by
 have HK:=dH (key_c x (by omega) w);have c0:(x ==[])=false:=by
  rw [beq_eq_false_iff_ne];exact fun e=>by rw [e] at h1;simp at h1
 obtain ⟨K,hK⟩:=dB (keyL x);have HK:dG (Calls prog 179 #[.string (bs x)] w (dJ w (.string (bs K)))):=dH (by rw [hK];exact HK.o);rw [<-hK] at hno ⊢;have H:=dH h;clear h hK;have step:∀w1,Below w.heap.size w w1->StI w1 d pb kb q u fs:=fun w1 hb=>H.o.later hb
 have hc:decide ((q:Int) < (u:Int)+(x.length:Int))=false:=by simp;omega
 go_enter func174,ntmps174;go_wp2_with fail;refine HK.o.mono ?_;rintro e w1 ⟨rfl,dR⟩;have hs1:=step w1 dR;have q2:w1.cell? ⟨d,2,none⟩=some (.map (some pb)):=hs1.blk.cell 2;have hlk:=hs1.fs.look2 underlying191 underlying9 tF K;rw [hno] at hlk;simp only [Option.getD_none,Option.isSome_none] at hlk;have kd0:∀y:dm w1,y.wd.cell? ⟨d,0,none⟩=some (.int .i64 (q:Nat)):=fun y=>y.cell (hs1.blk.cell 0)
 have HU:=dH (fun y:dm w1=>Lv (hs1.later y.below));have tZ:=dH hs1;have eH:=dH dR;clear hs1 dR;go_wp2_with fail;refine eD (by kernel_rfl) (by kernel_rfl) ?_;repeat (go_big_quiet_step ((go_at_call 249;exact uy (HU.o _))))
 refine wpQuiet_nil ?_;rintro _ ⟨y,rfl⟩;have Ki:=tZ.o.later y.below;have hc1:y.wd.cell? ⟨d,1,none⟩=some (.int .i64 (u:Nat)):=Ki.blk.cell 1;have hz1:=Ki.blk.frozen 1;have lF:=QG d (u:Nat) (x.length:Nat) ((u+x.length:Nat):Int) y.wd hc1 hz1 (by unfold wrap64;omega);obtain ⟨w2,eV⟩:=dB (y.wd.setCell ⟨d,1,none⟩ (.int .i64 ((u+x.length:Nat):Int)));rw [<-eV] at lF;have dS:Blk w2 d 227 #[.int .i64 (q:Nat),.int .i64 ((u+x.length:Nat):Int),.map (some pb),.map (some kb)]:=by rw [eV];exact Ki.blk.set_ 1 _
 have hg2:y.wd.grownBy w2 (some d):=by rw [eV];exact dh (dx _ _) (p:=⟨d,1,none⟩) (.inl rfl) _
 have G6:Fs w2 pb fs:=Ki.fs.grown hg2 (fun e=>Ki.fs.ne_blk Ki.blk (by cases e;rfl));have hdk:d≠kb:=by
  rintro rfl;have h1:=Ki.blk;have h2:=Ki.kept;unfold Blk at h1;rw [h1] at h2;cases h2
 have Ux:kb < y.wd.heap.size:=by
  rcases aG kb y.wd.heap.size with hlt|hge
  ·exact hlt
  ·have:=Ki.kept;rw [ak hge] at this;cases this
 have hk2:w2.heap[kb]? =some (.map #[] 0):=(hg2.block kb Ux (fun e=>hdk (by cases e;rfl))).trans Ki.kept;have q22:w2.cell? ⟨d,2,none⟩=some (.map (some pb)):=dS.cell 2;obtain ⟨w3,Kt,Uf,hg3,_⟩:=G6.store underlying191 underlying9 K x;have hne:=Ki.ne;have h3:StI w3 d pb kb q (u+x.length) (put fs K x):=
  ⟨dS.grown hg3 (fun e=>G6.ne_blk dS (by cases e;rfl)),Uf,(hg3.block kb (aN Ux hg2.size) (fun e=>hne (by cases e;rfl))).trans hk2,hne⟩
 have eY:dY (SS d pb kb) w w2:=eB (eR (S:=SS d pb kb) (eH.o.trans (y.below.mono eH.o.size))) (ep (S:=SS d pb kb) hg2 (fun i e=>.inl (by cases e;rfl))) (fun _ _ h=>h);have H3:=dH h3;have dw:=dH (eB eY (ep (S:=SS d pb kb) hg3 (fun i e=>.inr (.inl (by cases e;rfl)))) (fun _ _ h=>h));have abj:=dH lF;clear h3 eY lF hne G6 hk2 hdk Ux hg2 hg3 Uf eV dS Ki step;go_wp2_with fail;refine abj.o.mono ?_;rintro e w' ⟨rfl,Og⟩;rw [Og];clear Og;go_wp2_with fail;go_ret2;exact ⟨rfl,H3.o,dw.o⟩
end Pt
namespace Pt
open Go.RowKit Fm
attribute [local go_sem] dO dL dQ dM
theorem Iz {n:Nat} (h:n < 18446744073709551616) (rest:List UInt8):Cd.rnumR (Cd.numU n++rest)=(rest,0,n):=by
 have h1:=Cd.num_app (d:=Cd.numU n++rest) (a:=0) h (bk ..);have h2:=Cd.rnum_num (Cd.numU n++rest) 0;rw [bk,h1] at h2;obtain ⟨h3,h4,h5⟩:=h2;have h6:=h5 rfl;rw [aY,List.drop_left] at h6;exact Prod.ext h6 (Prod.ext h3 h4)
theorem Lw (l:List (List UInt8)):(l.flatMap keyL).length=32*l.length:=by
 induction l with
 |nil=>rfl
 |cons x l ih=>rw [au,aO,ih,keyL_len,aQ];omega
theorem J1 (l:List (List UInt8)):jq (l.flatMap keyL) l.length=l.map keyL:=by
 induction l with
 |nil=>rfl
 |cons x l ih=>
  unfold jq at ih ⊢;rw [aQ,List.range_succ_eq_map,ai,List.map_map,ai];refine congr (congrArg List.cons ?_) ?_
  ·unfold nN
   rw [au,Nat.mul_zero,bk,<-keyL_len x,List.take_left]
  ·rw [<-ih]
   refine List.map_congr_left fun i _=>?_
   show nN _ (i+1)=nN _ i;unfold nN;rw [au];rw [show 32*(i+1)=(keyL x).length+32*i by rw [keyL_len];omega,<-List.drop_drop,List.drop_left]
theorem man_keys {d:List UInt8} (h:d.length<=4096) (h0:d≠[]):keysL (manL d)=((cutL d).map keyL,(d.length:Int),0):=by
 have hd:1<=d.length:=by cases d <;> simp_all
 have hn:Cd.numL (d.length:Int)=Cd.numU d.length:=by unfold Cd.numL;rw [yd (by omega)]
 have hr:Cd.rnumR (manL d)=((cutL d).flatMap keyL,0,d.length):=by unfold manL;rw [hn,Iz (by omega)]
 have ht:Cd.toI d.length=(d.length:Int):=by unfold Cd.toI;omega
 have hne:manL d≠[]:=by unfold manL;rw [hn];unfold Cd.numU;simp
 rw [vT hne (by rw [hr]) (by rw [hr];show 1<=Cd.toI d.length;omega) (by rw [hr];show Cd.toI d.length<=4096;omega) (by rw [hr];show ((cutL d).flatMap keyL).length=_;rw [Lw,nt]),hr];dsimp only;rw [ht,<-nt,J1]
theorem me.keys (m:List UInt8):me (keysL m).1:=by
 intro x hx;unfold keysL at hx;split at hx
 ·cases hx
 ·split at hx
  ·unfold jq at hx
   obtain ⟨i,_,rfl⟩:=aV.1 hx;unfold nN;rw [aX];omega
  ·cases hx
theorem missing_any {d pb kb q u:Nat} {fs:Files} {w:World} (h:StI w d pb kb q u fs) (m:Bytes) (hm:m.length<=1000000) (hk:(keysL m).2.2=0) (hall:∀k∈(keysL m).1,(Fm.get fs k).isSome=true):
  Calls prog 138 #[.pointer (some ⟨d,0,none⟩),.string (bs m)] w (dJ w (.tuple #[.slice none 0 0,.int .i64 0])):=by
 have HK:=dH (qi m hm w);have H:=dH h;have abk:=dH hall;clear h hall;go_enter func138,ntmps138;go_wp2_with fail;refine HK.o.mono ?_;rintro e w1 ⟨v,rfl,ho,dR⟩;obtain ⟨A,c,rfl,hs⟩:=ho.strs (me.keys m);obtain ⟨ks,hks⟩:=dB ((keysL m).1);rw [<-hks] at hs;rw [hk,<-hks];obtain ⟨kn,hkn⟩:=dB ((keysL m).2.1);rw [<-hkn];have hmax:ks.length<=9223372036854775807:=aK hs.le hs.max;have hs1:=H.o.later dR;have q2:w1.cell? ⟨d,2,none⟩=some (.map (some pb)):=hs1.blk.cell 2;have HS:=dH hs;have qL:=dH hs1;have eH:=dH dR;have Sk:=dH hks;clear hs hs1 dR hks ho hkn hk;go_wp2_with fail;go_loopw [9,27] (fun o i wr=>∃k:Nat,k<=ks.length/\o=.slice none 0 0/\i=.int .i64 (k:Nat)/\wr=w1) (fun _ i _=>ks.length - (intOf i).toNat)
 case atStart=>exact ⟨0,aT _,rfl,rfl,rfl⟩
 case round=>
  obtain ⟨k,hk2,rfl,rfl,rfl⟩:=hrel;rcases aG k ks.length with hlt|hge
  ·obtain ⟨b,off,rfl,adx,hcell,hml⟩:=HS.o.at_ hlt
   have hsome:=abk.o (ks[k]) (by rw [<-Sk.o];exact ag hlt);have hlk:=qL.o.fs.look2 underlying191 underlying9 tF ks[k];rw [hsome] at hlk;clear hsome;go_wp2_with fail;exact ⟨⟨k+1,hlt,rfl,by go_num,trivial⟩,by simp [intOf];omega⟩
  ·have hnot:decide (k < ks.length)=false:=by simp;omega
   go_wp2_with fail;go_ret2;exact ⟨rfl,eH.o⟩
end Pt
namespace Pt
open Go.RowKit
attribute [local go_sem] dO dL dQ dM
def Wn (n:Int) (s k:List UInt8) (i:Nat):Prop:=(s.length:Int)=min (n - 256*i) 256/\keyL s=k
def J2 (n:Int) (l ks:List (List UInt8)) (k:Nat):Prop:=∀i (h:i < l.length) (h':i < ks.length),i < k->Wn n l[i] ks[i] i
open Classical in
noncomputable def joinJ (K:List (List UInt8)×Int×Int) (l:List (List UInt8)):List UInt8×Int:=
 if K.2.2≠0 then ([],K.2.2) else if l.length≠K.1.length then ([],13) else if J2 K.2.1 l K.1 l.length then (l.flatten,0) else ([],13)
theorem J3 {ks:List (List UInt8)} {n e:Int} {l:List (List UInt8)} (h:e≠0):joinJ (ks,n,e) l=([],e):=by unfold joinJ;rw [if_pos h]
theorem J4 {ks:List (List UInt8)} {n:Int} {l:List (List UInt8)} (h:l.length≠ks.length):joinJ (ks,n,0) l=([],13):=by unfold joinJ;rw [if_neg (by simp),if_pos h]
theorem joinJ_ok {ks:List (List UInt8)} {n:Int} {l:List (List UInt8)} (h:l.length=ks.length) (hk:J2 n l ks l.length):joinJ (ks,n,0) l=(l.flatten,0):=by unfold joinJ;rw [if_neg (by simp),if_neg (by simpa using h),if_pos hk]
theorem J5 {ks:List (List UInt8)} {n:Int} {l:List (List UInt8)} (h:l.length=ks.length) {i:Nat} (hi:i < l.length) (hi':i < ks.length) (hk:¬ Wn n l[i] ks[i] i):joinJ (ks,n,0) l=([],13):=by
 unfold joinJ;rw [if_neg (by simp),if_neg (by simpa using h),if_neg (fun hh=>hk (hh i hi hi' hi))]
theorem J6 {n:Int} {l ks:List (List UInt8)} {k:Nat} (h:J2 n l ks k) (hl:k < l.length) (hk:k < ks.length) (ho:Wn n l[k] ks[k] k):J2 n l ks (k+1):=fun i hi hi' hlt=>by
 rcases aG i k with h1|h1
 ·exact h i hi hi' h1
 ·obtain rfl:i=k:=by omega
  exact ho
theorem yt {l:List (List UInt8)} {k:Nat} (hl:k < l.length):(l.take (k+1)).flatten=(l.take k).flatten++l[k]:=by
 rw [bF hl,List.flatten_append];simp
theorem Ca {n:Int} {l ks:List (List UInt8)} (h:l.length=ks.length):∀{k:Nat},k<=l.length->J2 n l ks k->((l.take k).flatten).length<=256*k
 |0,_,_=>by simp
 |k+1,hk,ho=>by
  rw [yt (by omega),aO];have h1:=Ca h (k:=k) (by omega) (fun i a b c=>ho i a b (by omega));have h2:=(ho k (by omega) (by omega) (by omega)).1;omega
def mF (w:World) (K:List (List UInt8)×Int×Int) (l:List (List UInt8)) (e:Ending) (w':World):Prop:=e=.returned (.tuple #[.string (bs (joinJ K l).1),.int .i64 (joinJ K l).2])/\Below w.heap.size w w'
theorem mF.no {w w':World} {K:List (List UInt8)×Int×Int} {l:List (List UInt8)} {e:Int} (h:joinJ K l=([],e)) (hb:Below w.heap.size w w'):mF w K l (.returned (.tuple #[.string ⟨#[]⟩,.int .i64 e])) w':=by
 unfold mF;rw [h];exact ⟨rfl,hb⟩
theorem mF.yes {w w':World} {K:List (List UInt8)×Int×Int} {l:List (List UInt8)} {s:List UInt8} (h:joinJ K l=(s,0)) (hb:Below w.heap.size w w'):mF w K l (.returned (.tuple #[.string (bs s),.int .i64 0])) w':=by
 unfold mF;rw [h];exact ⟨rfl,hb⟩
theorem Cb (m:List UInt8):(keysL m).2.2=0->∃N:Nat,(keysL m).2.1=N/\N<=4096/\(keysL m).1.length=pieces N:=by
 by_cases h0:m=[]
 ·subst h0;exact fun _=> ⟨0,rfl,by omega,rfl⟩
 ·by_cases h:(Cd.rnumR m).2.1=0/\1<=Cd.toI (Cd.rnumR m).2.2/\Cd.toI (Cd.rnumR m).2.2<=4096/\(Cd.rnumR m).1.length=32*pieces (Cd.rnumR m).2.2
  ·obtain ⟨h1,h2,h3,h4⟩:=h
   have hs:=yb (CJ m) h2 h3;rw [vT h0 h1 h2 h3 h4];exact fun _=> ⟨(Cd.rnumR m).2.2,hs,by omega,yc _ _⟩
  ·rw [nw h0 h]
   intro h;cases h
theorem Eu {W:World} (x:dm W) {s:List UInt8} (hs:s.length<=100000) {K:List UInt8} (hK:keyL s=K):Calls prog 179 #[.string (bs s)] x.wd fun e w'=>e=.returned (.string (bs K))/\∃y:dm W,w'=y.wd:=fU (by rw [<-hK];exact key_c s hs x.wd)
theorem Lx (m:List UInt8) (hm:m.length<=1000000) (A:Option Addr) (n c:Nat) (l:List (List UInt8)) (w:World) (hx:Strs w A n c l) (hs:∀s∈l,s.length<=100000):
  Calls prog 140 #[.string (bs m),.slice A n c] w (mF w (keysL m) l):=by
 have hK:=qi m hm w;have hF:=Cb m;have hsh:=me.keys m;unfold iq at hK;generalize keysL m=K at*;obtain ⟨ks,nn,ee⟩:=K;dsimp only at hK hF hsh;have hn:=hx.len;have qJ:=hx.max;have hle:=hx.le;have HK:=dH hK;have HX:=dH hx;have BD:=dH hsh;have HS:=dH hs;clear hK hx hsh hs;by_cases he:ee=0
 case neg=>
  have hne:(ee != 0)=true:=by simpa using he
  have HJ:=dH (J3 (ks:=ks) (n:=nn) (l:=l) he);clear he hF;go_enter func140,ntmps140;go_wp2_with fail;refine HK.o.mono ?_;rintro e w1 ⟨v1,rfl,WR,dR⟩;have eH:=dH dR;clear WR dR;go_wp2_with fail;go_ret2;exact mF.no HJ.o eH.o
 subst he;obtain ⟨N,rfl,hN,hkl⟩:=hF rfl;clear hF;by_cases hlen:n=ks.length
 case neg=>
  have hne:((n:Int) != (ks.length:Int))=true:=by rw [bne_iff_ne];omega
  have HJ:=dH (J4 (ks:=ks) (n:=N) (l:=l) (by omega));clear hkl hlen;go_enter func140,ntmps140;go_wp2_with fail;refine HK.o.mono ?_;rintro e w1 ⟨v1,rfl,WR,dR⟩;obtain ⟨A1,c1,rfl,uH⟩:=fZ.strs WR BD.o;have eH:=dH dR;have abl:=uH.max;have hle1:=uH.le;clear WR dR uH;go_wp2_with fail;go_ret2;exact mF.no HJ.o eH.o
 have hne:((n:Int) != (ks.length:Int))=false:=by rw [bne_eq_false_iff_eq];omega
 have BE:=dH hlen;have HKl:=dH hkl;have HN:=dH hn;have hnn:n<=17:=by rw [hlen,hkl];unfold pieces;omega
 clear hkl hlen;go_enter func140,ntmps140;go_wp2_with fail;refine HK.o.mono ?_;rintro e w1 ⟨v1,rfl,WR,dR⟩;obtain ⟨A1,c1,rfl,uH⟩:=fZ.strs WR BD.o;have eH:=dH dR;have qK:=(aC w1.heap.size w1).alloc (aB _) (.cells #[.pointer none,.slice none 0 0] 261);have tZ:=dH uH;have Z0:=dH (HX.o.below dR);have abl:=uH.max;have hle1:=uH.le;have iZ:=Bld.fresh w1;obtain ⟨w0,hw0⟩:=dB (w1.alloc (.cells #[.pointer none,.slice none 0 0] 261));obtain ⟨b0,hb0⟩:=dB w1.heap.size;have hs0:b0 < w0.heap.size:=by rw [hw0,hb0];simp
 rw [<-hw0] at qK iZ;rw [<-hb0] at iZ qK;have HW:=dH hw0;have HQ:=dH hb0;have wY:=dH qK;have qM:=dH iZ;have Uy:w.heap.size<=b0:=by rw [hb0];exact dR.size
 clear WR dR uH qK iZ hw0 hb0;go_upto_region 7 with (fail);rw [<-HW.o,<-HQ.o];clear hne;go_wp2_with fail;go_loopw [7,30] (fun t i wr=>∃k:Nat,k<=n/\i=.int .i64 k/\t=.int .i64 (max ((N:Int) - 256*k) 0)/\J2 N l ks k/\Bld wr b0 b0 (l.take k).flatten/\Below b0 w1 wr/\b0<=wr.heap.size/\Below w.heap.size w wr) (fun _ i _=>n - (intOf i).toNat)
 case atStart=>exact ⟨0,by omega,rfl,by simp,(fun i _ _ h=>by omega),qM.o,wY.o,by omega,eH.o.trans (wY.o.mono Uy)⟩
 case round=>
  obtain ⟨k,hk,rfl,rfl,ho,nJ,qS,Bh,oO⟩:=hrel;have hb:Below w1.heap.size w1 wr:=by rw [<-HQ.o];exact qS
  rcases aG k n with hlt|hge
  ·have hkl:k < l.length:=by omega
   have hkk:k < ks.length:=by have:=BE.o;omega
   have EI:=BE.o;have hkP:=oT.1 (show k < pieces N by rw [<-HKl.o];exact hkk);obtain ⟨b,off,rfl,jY,c0,_⟩:=Strs.at_ (Z0.o.below hb) hkl;obtain ⟨b2,off2,rfl,KD,d0,_⟩:=Strs.at_ (tZ.o.below hb) hkk;have hfl:=Ca (n:=N) (by omega:l.length=ks.length) (by omega) ho;have Dh:=HS.o l[k] (ag hkl);have Uz:=dH (fun h:¬ Wn N l[k] ks[k] k=>J5 (by omega) hkl hkk h);have HOk:=dH (fun h:Wn N l[k] ks[k] k=>J6 ho hkl hkk h);have HFl:=dH (yt hkl);have HKy:=dH (fun x:dm wr=>Eu x Dh rfl);have rH:=dH nJ;have Yy:=dH qS;have Sm:=dH oO;have hmax:max ((N:Int) - 256*(k:Int)) 0=(N:Int) - 256*(k:Int):=by omega
   rw [hmax];have Z1:max ((N:Int) - 256*((k+1:Nat):Int)) 0=((N:Int) - 256*(k:Int)) - min ((N:Int) - 256*(k:Int)) 256:=by omega
   have acC:(1:Int)<=(N:Int) - 256*(k:Int):=by omega
   have acD:(N:Int) - 256*(k:Int)<=4096:=by omega
   clear ho hb nJ qS oO hmax;unfold Wn at Uz HOk;generalize l[k]=s at*;generalize ks[k]=ky at*;generalize (l.take k).flatten=acc at*;have hki:(k:Int) < (n:Int):=by omega
   have acS:acc.length<=5000:=by omega
   have acT:(k:Int) < (ks.length:Int):=by omega
   have abm:=dH Z1;clear Z1;generalize (N:Int) - 256*(k:Int)=lf at*;have l0:=fun x:dm wr=>x.cell c0
   have l1:=fun x:dm wr=>x.cell d0
   obtain ⟨mn,hmn⟩:∃mn:Int,mn=min lf 256:=⟨_,rfl⟩;have abn:min lf 256=mn:=hmn.symm;by_cases h1:(s.length:Int)=mn
   case neg=>
    have hq:(((s.length:Nat):Int) != mn)=true:=by simpa using h1
    have HJ:=dH (Uz.o (fun h=>h1 (h.1.trans hmn.symm)));clear h1 hmn hkl hkk EI Dh hkP;go_upto_region 10 with (fail);refine eD (by kernel_rfl) (by kernel_rfl) ?_;repeat (go_big_quiet_step (fail))
    refine wpQuiet_nil ?_;clear l0 l1;rintro _ ⟨x2,rfl⟩;have Z2:=dH (Sm.o.trans (x2.below.mono Sm.o.size));go_wp2_with fail;go_ret2;exact mF.no HJ.o Z2.o
   have hq:(((s.length:Nat):Int) != mn)=false:=by simpa using h1
   have HLn:=dH (h1.trans hmn);by_cases h2:keyL s=ky
   case neg=>
    have HJ:=dH (Uz.o (fun h=>h2 h.2));have q1:(keyL s ==ky)=false:=by simpa using h2
    generalize keyL s=ks2 at*;clear h1 hmn hkl hkk EI Dh hkP;go_upto_region 10 with (fail);refine eD (by kernel_rfl) (by kernel_rfl) ?_;repeat (go_big_quiet_step ((go_at_call 179;exact HKy.o _)))
    refine wpQuiet_nil ?_;clear l0 l1;rintro _ ⟨x2,rfl⟩;have Z2:=dH (Sm.o.trans (x2.below.mono Sm.o.size));go_wp2_with fail;go_ret2;exact mF.no HJ.o Z2.o
   have HJ:=dH (HOk.o ⟨HLn.o,h2⟩);rw [h2] at HKy;have acU:(s.length:Int)<=256:=by omega
   clear h1 hmn hkl hkk EI h2 hkP;go_upto_region 10 with (fail);refine eD (by kernel_rfl) (by kernel_rfl) ?_;repeat (go_big_quiet_step ((go_at_call 179;exact HKy.o _)))
   refine wpQuiet_nil ?_;clear l0 l1;rintro _ ⟨x2,rfl⟩;have Z2:=dH (Below.trans Yy.o (x2.below.mono Bh));have HBy:=dH (Below.trans Sm.o (x2.below.mono Sm.o.size));have uJ:=dH (Bld.below rH.o x2.below);have hs5:b0<=x2.wd.heap.size:=aK Bh x2.below.size;generalize x2.wd=w5 at*;clear x2 abn hq;go_wp2_with fail;refine (write_any b0 b0 acc s w5 uJ.o (by omega) hs5).mono ?_;rintro e w6 ⟨rfl,aaG,iW,_⟩;have yE:=dH aaG;have jc:=dH (Below.trans Z2.o iW);have abo:=dH (Below.trans HBy.o (iW.mono Uy));have hs6:b0<=w6.heap.size:=aK hs5 iW.size;clear aaG iW;go_wp2_with fail;exact ⟨⟨k+1,by omega,by go_num,by rw [abm.o,HLn.o],HJ.o,by rw [HFl.o];exact yE.o,jc.o,hs6,abo.o⟩,by simp [intOf];omega⟩
  ·obtain rfl:k=n:=by omega
   have hkn:¬ (k:Int) < (k:Int):=by omega
   have eC:(l.take k).flatten=l.flatten:=by rw [az (by omega)]
   rw [eC] at nJ;have HJ:=dH (joinJ_ok (ks:=ks) (n:=N) (l:=l) (by have:=BE.o;omega) (by rw [HN.o];exact ho));have rH:=dH nJ;have Sm:=dH oO;clear hb ho eC nJ qS oO;go_wp2_with fail;refine (string_any b0 b0 l.flatten wr rH.o Bh).mono ?_;rintro e w4 ⟨rfl,hb4⟩;have fD:=dH (Sm.o.trans (hb4.mono Uy));clear hb4;go_wp2_with fail;go_ret2;exact mF.yes HJ.o fD.o
end Pt
end Go.Proofs.YtgdaahffmcfhpaaGreatDoor
