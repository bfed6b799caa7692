/- Lemmas on the way: Ad VMo Ae Af. -/
import Derived.Test.YtgdaahffmcfhpaaGreatDoorT30
import Derived.Test.YtgdaahffmcfhpaaGreatDoorT00
set_option maxRecDepth 100000
set_option maxHeartbeats 8000000
namespace Go.Proofs.YtgdaahffmcfhpaaGreatDoor
open Tryz
section
open Go.RowKit
attribute [local go_sem] dO dL dQ dM
def nP (x:dV) (d:Int):List Int:=[x.st.1,x.st.2,x.seq,x.kind,x.node.1,x.node.2,d,x.par.1,x.par.2]
def rA (x:dV) (d:Int) (k:Nat):List UInt8:=((nP x d).take k).flatMap Pt.Cd.numL
theorem sF (x:dV) (d:Int) {k:Nat} (h:k < (nP x d).length):rA x d (k+1)=rA x d k++Pt.Cd.numL (nP x d)[k]:=by
 unfold rA;rw [bF h,List.flatMap_append,List.flatMap_singleton]
theorem wF (x:dV) (d:Int):∀k,(rA x d k).length<=9*k
 |0=>by simp [rA]
 |k+1=>by
  have ih:=wF x d k;rcases aG k (nP x d).length with h|h
  ·rw [sF x d h,aO];have:=eL (nP x d)[k];omega
  ·have:rA x d (k+1)=rA x d k:=by unfold rA;rw [az (by omega),az (by omega)]
   rw [this];omega
theorem D9 (x:dV) (r:List UInt8):rA x (xm x.dir) 9++(Pt.Cd.textL x.nm++(Pt.Cd.textL x.mf++r))=FJ x r:=by
 simp [rA,nP,FJ,oA]
theorem DA {x:dV} (h:D7 x) {d:Int} (hd:nU d):∀n∈nP x d,nU n:=by
 intro n hn;simp only [nP,aR,bJ,or_false] at hn;rcases hn with rfl|rfl|rfl|rfl|rfl|rfl|rfl|rfl|rfl
 ·exact h.st.1
 ·exact h.st.2
 ·exact h.seq
 ·exact h.kind
 ·exact h.node.1
 ·exact h.node.2
 ·exact hd
 ·exact h.par.1
 ·exact h.par.2
def pP (l:List Int):Array Value:=(l.map (Value.int .i64)).toArray
structure jG (q:Nat) (x:dV) (w:World):Prop where
 blk:Blk w q 32 (oc x).toArray
theorem jG.cells {q:Nat} {x:dV} {w:World} (h:jG q x w):w.cell? ⟨q,9,none⟩=some (.string (bs x.nm))/\w.cell? ⟨q,10,none⟩=some (.string (bs x.mf)):=⟨h.blk.cell 9,h.blk.cell 10⟩
theorem jG.drew {q:Nat} {x:dV} {w:World} (h:jG q x w):jG q x w.drew:=⟨h.blk.drew⟩
theorem jG.below {q B:Nat} {x:dV} {w w':World} (h:jG q x w) (hb:Below B w w') (hq:q < B):jG q x w':=⟨h.blk.below hb hq⟩
theorem jG.lt {q:Nat} {x:dV} {w:World} (h:jG q x w):q < w.heap.size:=h.blk.lt
theorem jG.later {q:Nat} {x:dV} {w w':World} (h:jG q x w) (hb:Below w.heap.size w w'):jG q x w':=h.below hb h.lt
theorem JY (x:dV) (hx:D7 x) (hrc:r9 x=0) (sX:x.dir=false) (w:World):
  Calls prog 198 #[ov x] w (dJ w (.tuple #[.string (bs (gG x)),.int .i64 0])):=by
 have HE:dG (rA x 0 9++(Pt.Cd.textL x.nm++(Pt.Cd.textL x.mf++[]))=gG x):=dH (by have:=D9 x [];rw [sX] at this;exact this);have ZV:=dH (DA hx (d:=0) (by unfold nU;omega));have EI:(nP x 0).length=9:=rfl;obtain ⟨ns,Oq⟩:=dB (nP x 0);have VL:=dH (show ns.length=9 by rw [Oq];rfl);obtain ⟨EK,Ot⟩:∃EK:Nat->List UInt8,EK=rA x 0:=⟨_,rfl⟩;have HSU:dG (∀k (h:k < ns.length),EK (k+1)=EK k++Pt.Cd.numL ns[k]):=dH (by rw [Oq,Ot];exact fun k h=>sF x 0 h);have VM:dG (∀k,(EK k).length<=9*k):=dH (by rw [Ot];exact wF x 0);have HE0:dG (EK 0=[]):=dH (by rw [Ot];rfl);rw [<-Oq] at ZV;rw [<-Ot] at HE;have hnm:=hx.nm;have Ug:=hx.mf;have HR:=dH (fun w=>jL x (by omega) (by omega) w);rw [hrc] at HR;have VN:=dH Oq;obtain ⟨q0,Oo⟩:=dB w.heap.size;obtain ⟨w1,hw1⟩:=dB (w.alloc (.cells #[.int .i64 x.st.1,.int .i64 x.st.2,.int .i64 x.seq,.int .i64 x.kind,.int .i64 x.node.1,.int .i64 x.node.2,.bool x.dir,.int .i64 x.par.1,.int .i64 x.par.2,.string (bs x.nm),.string (bs x.mf)] 32));have sY:jG q0 x w1:=⟨by rw [hw1,Oo];exact Blk.new w 32 (oc x).toArray⟩;have dR:Below w.heap.size w w1:=by rw [hw1];exact (aC _ w).alloc (aB _) _
 have c0:=sY.blk.cell 0;have c1:=sY.blk.cell 1;have c2:=sY.blk.cell 2;have c3:=sY.blk.cell 3;have c4:=sY.blk.cell 4;have c5:=sY.blk.cell 5;have c6:=sY.blk.cell 6;have c7:=sY.blk.cell 7;have c8:=sY.blk.cell 8;have c9:=sY.blk.cell 9;have jt:=sY.blk.cell 10;simp [oc] at c0 c1 c2 c3 c4 c5 c6 c7 c8 c9 jt;have rG:=dH hw1;have Uj:=dH Oo;have EN:=dH sY;have eH:=dH dR;have abE:w.heap.size<=q0:=by omega
 have VO:=dH sX;clear hx hrc Oq Ot Oo hw1 sY dR sX EI;unfold ov at HR ⊢;go_enter func198,ntmps198;go_upto_region 1 with (fail);rw [<-rG.o,<-Uj.o];go_wp2_with fail;refine (HR.o _).mono ?_;rintro e w2 ⟨rfl,dS⟩;have eG:=dF eH dS;have BH:=EN.o.later dS;clear dS c0 c1 c2 c3 c4 c5 c6 c7 c8 c9 jt HR;have c6:=BH.blk.cell 6;simp [oc] at c6;rw [VO.o] at c6;obtain ⟨BP,xK⟩:=dB (w2.alloc (.cells #[.pointer none,.slice none 0 0] 261));have BI:Below w2.heap.size w2 BP:=by rw [xK];exact (aC _ w2).alloc (aB _) _
 have uj:=BH.later BI;have c0:=uj.blk.cell 0;have c1:=uj.blk.cell 1;have c2:=uj.blk.cell 2;have c3:=uj.blk.cell 3;have c4:=uj.blk.cell 4;have c5:=uj.blk.cell 5;have c7:=uj.blk.cell 7;have c8:=uj.blk.cell 8;simp [oc] at c0 c1 c2 c3 c4 c5 c7 c8;have VP:=dH xK;have iZ:=Pt.Bld.fresh w2;rw [<-xK] at iZ;obtain ⟨b0,hb0⟩:=dB w2.heap.size;have hsz:BP.heap.size=b0+1:=by rw [xK,hb0];exact aZ _
 obtain ⟨w3,iI⟩:=dB (BP.alloc (.cells #[.int .i64 x.st.1,.int .i64 x.st.2,.int .i64 x.seq,.int .i64 x.kind,.int .i64 x.node.1,.int .i64 x.node.2,.int .i64 0,.int .i64 x.par.1,.int .i64 x.par.2] 3));have qT:Below BP.heap.size BP w3:=by rw [iI];exact (aC _ BP).alloc (aB _) _
 have OM:Pt.Bld w3 b0 b0 (EK 0):=by
  rw [HE0.o,hb0];exact Pt.Bld.below iZ qT
 have ZW:Blk w3 (b0+1) 3 (pP ns):=by
  have:=Blk.new BP 3 (pP ns);rw [hsz] at this;rw [iI,VN.o];rw [VN.o] at this;exact this
 have VK:=dH hsz;have lJ:=dH (uj.later qT);have De:q0 < b0:=by rw [hb0];exact BH.lt
 have uh:=dH iI;have mW:=dH hb0;have mP:=dH OM;have pF:=dH ZW;have hs3:b0<=w3.heap.size:=by have:=qT.size;omega
 have dw:=dH ((eG.o.trans (BI.mono eG.o.size)).trans (qT.mono (aK eG.o.size BI.size)));clear iZ iI hb0 hsz qT OM ZW uj EN eH xK BI BH;go_upto_region 8 with (fail);rw [<-VP.o,<-mW.o];clear c6;go_wp2_with fail;rw [VK.o,<-uh.o];go_loopw [41] (fun i wr=>∃k:Nat,k<=9/\i=.int .i64 k/\dG (Pt.Bld wr b0 b0 (EK k))/\dG (Blk wr (b0+1) 3 (pP ns))/\dG (jG q0 x wr)/\dG (Below w.heap.size w wr)/\b0<=wr.heap.size) (fun i _=>9 - (intOf i).toNat)
 case atStart=>exact ⟨0,by omega,rfl,mP,pF,lJ,dw,hs3⟩
 case round=>
  obtain ⟨k,hk,rfl,nJ,S7,hKr,qS,Bh⟩:=hrel;rcases aG k 9 with hlt|hge
  ·have hkl:k < ns.length:=by have:=VL.o;omega
   have pT:=S7.o.cell k;unfold pP at pT;simp [hkl] at pT;have hok:=ZV.o ns[k] (ag hkl);have ZX:=dH (HSU.o k hkl);have hnl:=eL ns[k];have hel:=VM.o k;obtain ⟨m,hm⟩:=dB (ns[k]);rw [<-hm] at pT hok ZX hnl;have hki:(k:Int) < 9:=by omega
   clear hm;go_wp2_with fail;refine (Pt.Cd.num_c m _ hok).mono ?_;rintro e v1 ⟨rfl,dR⟩;have VQ:=dH (Pt.Bld.below nJ.o dR);have VR:=dH (S7.o.below dR S7.o.lt);have ON:=dH (hKr.o.later dR);have VS:=dF qS dR;have OO:b0<=v1.heap.size:=aK Bh dR.size;clear dR nJ S7 hKr qS;go_wp2_with fail;refine (Pt.write_any b0 b0 (EK k) (Pt.Cd.numL m) v1 VQ.o (by omega) OO).mono ?_;rintro e v2 ⟨rfl,iZ,dS,Ou⟩;have K4:dG (Pt.Bld v2 b0 b0 (EK (k+1))):=dH (by rw [ZX.o];exact iZ);have VT:dG (Blk v2 (b0+1) 3 (pP ns)):=dH (Ou (b0+1) _ VR.o (by simp) (by intro c fz e;cases e));have VU:=dH (ON.o.below dS De);have VV:=dH (VS.o.trans (dS.mono (by have:=ON.o.lt;omega)));have VW:b0<=v2.heap.size:=aK OO dS.size;clear iZ dS Ou;go_wp2_with fail;exact ⟨⟨k+1,by omega,by go_num,K4,VT,VU,VV,VW⟩,by simp [intOf];omega⟩
  ·obtain rfl:k=9:=by omega
   have YX:=fK x.nm;have PO:=fK x.mf;have hE9:=VM.o 9;have HEN:dG (EK 9++(Pt.Cd.textL x.nm++Pt.Cd.textL x.mf)=gG x):=dH (by rw [<-HE.o];simp);have e1:∀(a b:List UInt8),bs a++bs b=bs (a++b):=fun a b=>dM a b
   generalize EK 9=E9 at*;have abF:(Pt.Cd.textL x.nm).length<=5000:=by omega
   have abG:(Pt.Cd.textL x.mf).length<=5000:=by omega
   have Z0:=dH (fun w=>Pt.Cd.text_c x.nm w (by omega));have tV:=dH (fun w=>Pt.Cd.text_c x.mf w (by omega));generalize Pt.Cd.textL x.nm=T1 at*;generalize Pt.Cd.textL x.mf=T2 at*;have PK:¬ 9223372036854775807 < E9.length+T1.length:=by omega
   have hA2:¬ 9223372036854775807 < E9.length+T1.length+T2.length:=by omega
   have VX:dG (Pt.Bld wr.drew b0 b0 E9):=dH (show Pt.Bld wr b0 b0 E9 from nJ.o);have VY:=dH (jG.drew hKr.o);have VZ:=dH (Below.drew qS.o);go_wp2_with fail;go_region_held3 (fun w'=>w'.cell? ⟨q0,9,none⟩=some (.string (bs x.nm))/\w'.cell? ⟨q0,10,none⟩=some (.string (bs x.mf)))
    (with_reducible first|exact jG.cells OP.o|exact jG.cells Dl.o|exact jG.cells nT.o|exact jG.cells hKr.o|exact jG.cells (jG.drew hKr.o)|exact jG.cells (jG.drew (jG.drew hKr.o)))
    (first
     |(go_at_call 180;refine (Pt.string_any b0 b0 E9 _ VX.o Bh).mono ?_;rintro e w4 ⟨rfl,hb4⟩;have nT:=dH (jG.below VY.o hb4 De);have fD:=dH (And.intro (VZ.o.trans (hb4.mono (by have:=hKr.o.lt;omega))) (aK Bh hb4.size));clear hb4)
     |(go_at_call 195;refine (Z0.o _).mono ?_;rintro e w5 ⟨rfl,eu⟩;have Dl:=dH (jG.later nT.o eu);have fk:=dH (fD.o.1.trans (eu.mono fD.o.1.size));clear eu)
     |(go_at_call 195;refine (tV.o _).mono ?_;rintro e w6 ⟨rfl,iW⟩;have OP:=dH (jG.later Dl.o iW);have jc:=dF fk iW;clear iW))
   go_wp2_with fail;go_ret2;exact ⟨by rw [<-HEN.o];first|rfl|(rw [bK];rfl),jc.o⟩
theorem MR (x:dV) (hx:D7 x) (hrc:r9 x=0) (sX:x.dir=true) (w:World):
  Calls prog 198 #[ov x] w (dJ w (.tuple #[.string (bs (gG x)),.int .i64 0])):=by
 have HE:dG (rA x 1 9++(Pt.Cd.textL x.nm++(Pt.Cd.textL x.mf++[]))=gG x):=dH (by have:=D9 x [];rw [sX] at this;exact this);have ZV:=dH (DA hx (d:=1) (by unfold nU;omega));have EI:(nP x 1).length=9:=rfl;obtain ⟨ns,Oq⟩:=dB (nP x 1);have VL:=dH (show ns.length=9 by rw [Oq];rfl);obtain ⟨EK,Ot⟩:∃EK:Nat->List UInt8,EK=rA x 1:=⟨_,rfl⟩;have HSU:dG (∀k (h:k < ns.length),EK (k+1)=EK k++Pt.Cd.numL ns[k]):=dH (by rw [Oq,Ot];exact fun k h=>sF x 1 h);have VM:dG (∀k,(EK k).length<=9*k):=dH (by rw [Ot];exact wF x 1);have HE0:dG (EK 0=[]):=dH (by rw [Ot];rfl);rw [<-Oq] at ZV;rw [<-Ot] at HE;have hnm:=hx.nm;have Ug:=hx.mf;have HR:=dH (fun w=>jL x (by omega) (by omega) w);rw [hrc] at HR;have VN:=dH Oq;obtain ⟨q0,Oo⟩:=dB w.heap.size;obtain ⟨w1,hw1⟩:=dB (w.alloc (.cells #[.int .i64 x.st.1,.int .i64 x.st.2,.int .i64 x.seq,.int .i64 x.kind,.int .i64 x.node.1,.int .i64 x.node.2,.bool x.dir,.int .i64 x.par.1,.int .i64 x.par.2,.string (bs x.nm),.string (bs x.mf)] 32));have sY:jG q0 x w1:=⟨by rw [hw1,Oo];exact Blk.new w 32 (oc x).toArray⟩;have dR:Below w.heap.size w w1:=by rw [hw1];exact (aC _ w).alloc (aB _) _
 have c0:=sY.blk.cell 0;have c1:=sY.blk.cell 1;have c2:=sY.blk.cell 2;have c3:=sY.blk.cell 3;have c4:=sY.blk.cell 4;have c5:=sY.blk.cell 5;have c6:=sY.blk.cell 6;have c7:=sY.blk.cell 7;have c8:=sY.blk.cell 8;have c9:=sY.blk.cell 9;have jt:=sY.blk.cell 10;simp [oc] at c0 c1 c2 c3 c4 c5 c6 c7 c8 c9 jt;have rG:=dH hw1;have Uj:=dH Oo;have EN:=dH sY;have eH:=dH dR;have abE:w.heap.size<=q0:=by omega
 have VO:=dH sX;clear hx hrc Oq Ot Oo hw1 sY dR sX EI;unfold ov at HR ⊢;go_enter func198,ntmps198;go_upto_region 1 with (fail);rw [<-rG.o,<-Uj.o];go_wp2_with fail;refine (HR.o _).mono ?_;rintro e w2 ⟨rfl,dS⟩;have eG:=dF eH dS;have BH:=EN.o.later dS;clear dS c0 c1 c2 c3 c4 c5 c6 c7 c8 c9 jt HR;have c6:=BH.blk.cell 6;simp [oc] at c6;rw [VO.o] at c6;obtain ⟨BP,xK⟩:=dB (w2.alloc (.cells #[.pointer none,.slice none 0 0] 261));have BI:Below w2.heap.size w2 BP:=by rw [xK];exact (aC _ w2).alloc (aB _) _
 have uj:=BH.later BI;have c0:=uj.blk.cell 0;have c1:=uj.blk.cell 1;have c2:=uj.blk.cell 2;have c3:=uj.blk.cell 3;have c4:=uj.blk.cell 4;have c5:=uj.blk.cell 5;have c7:=uj.blk.cell 7;have c8:=uj.blk.cell 8;simp [oc] at c0 c1 c2 c3 c4 c5 c7 c8;have VP:=dH xK;have iZ:=Pt.Bld.fresh w2;rw [<-xK] at iZ;obtain ⟨b0,hb0⟩:=dB w2.heap.size;have hsz:BP.heap.size=b0+1:=by rw [xK,hb0];exact aZ _
 obtain ⟨w3,iI⟩:=dB (BP.alloc (.cells #[.int .i64 x.st.1,.int .i64 x.st.2,.int .i64 x.seq,.int .i64 x.kind,.int .i64 x.node.1,.int .i64 x.node.2,.int .i64 1,.int .i64 x.par.1,.int .i64 x.par.2] 3));have qT:Below BP.heap.size BP w3:=by rw [iI];exact (aC _ BP).alloc (aB _) _
 have OM:Pt.Bld w3 b0 b0 (EK 0):=by
  rw [HE0.o,hb0];exact Pt.Bld.below iZ qT
 have ZW:Blk w3 (b0+1) 3 (pP ns):=by
  have:=Blk.new BP 3 (pP ns);rw [hsz] at this;rw [iI,VN.o];rw [VN.o] at this;exact this
 have VK:=dH hsz;have lJ:=dH (uj.later qT);have De:q0 < b0:=by rw [hb0];exact BH.lt
 have uh:=dH iI;have mW:=dH hb0;have mP:=dH OM;have pF:=dH ZW;have hs3:b0<=w3.heap.size:=by have:=qT.size;omega
 have dw:=dH ((eG.o.trans (BI.mono eG.o.size)).trans (qT.mono (aK eG.o.size BI.size)));clear iZ iI hb0 hsz qT OM ZW uj EN eH xK BI BH;go_upto_region 8 with (fail);rw [<-VP.o,<-mW.o];clear c6;go_wp2_with fail;rw [VK.o,<-uh.o];go_loopw [41] (fun i wr=>∃k:Nat,k<=9/\i=.int .i64 k/\dG (Pt.Bld wr b0 b0 (EK k))/\dG (Blk wr (b0+1) 3 (pP ns))/\dG (jG q0 x wr)/\dG (Below w.heap.size w wr)/\b0<=wr.heap.size) (fun i _=>9 - (intOf i).toNat)
 case atStart=>exact ⟨0,by omega,rfl,mP,pF,lJ,dw,hs3⟩
 case round=>
  obtain ⟨k,hk,rfl,nJ,S7,hKr,qS,Bh⟩:=hrel;rcases aG k 9 with hlt|hge
  ·have hkl:k < ns.length:=by have:=VL.o;omega
   have pT:=S7.o.cell k;unfold pP at pT;simp [hkl] at pT;have hok:=ZV.o ns[k] (ag hkl);have ZX:=dH (HSU.o k hkl);have hnl:=eL ns[k];have hel:=VM.o k;obtain ⟨m,hm⟩:=dB (ns[k]);rw [<-hm] at pT hok ZX hnl;have hki:(k:Int) < 9:=by omega
   clear hm;go_wp2_with fail;refine (Pt.Cd.num_c m _ hok).mono ?_;rintro e v1 ⟨rfl,dR⟩;have VQ:=dH (Pt.Bld.below nJ.o dR);have VR:=dH (S7.o.below dR S7.o.lt);have ON:=dH (hKr.o.later dR);have VS:=dF qS dR;have OO:b0<=v1.heap.size:=aK Bh dR.size;clear dR nJ S7 hKr qS;go_wp2_with fail;refine (Pt.write_any b0 b0 (EK k) (Pt.Cd.numL m) v1 VQ.o (by omega) OO).mono ?_;rintro e v2 ⟨rfl,iZ,dS,Ou⟩;have K4:dG (Pt.Bld v2 b0 b0 (EK (k+1))):=dH (by rw [ZX.o];exact iZ);have VT:dG (Blk v2 (b0+1) 3 (pP ns)):=dH (Ou (b0+1) _ VR.o (by simp) (by intro c fz e;cases e));have VU:=dH (ON.o.below dS De);have VV:=dH (VS.o.trans (dS.mono (by have:=ON.o.lt;omega)));have VW:b0<=v2.heap.size:=aK OO dS.size;clear iZ dS Ou;go_wp2_with fail;exact ⟨⟨k+1,by omega,by go_num,K4,VT,VU,VV,VW⟩,by simp [intOf];omega⟩
  ·obtain rfl:k=9:=by omega
   have YX:=fK x.nm;have PO:=fK x.mf;have hE9:=VM.o 9;have HEN:dG (EK 9++(Pt.Cd.textL x.nm++Pt.Cd.textL x.mf)=gG x):=dH (by rw [<-HE.o];simp);have e1:∀(a b:List UInt8),bs a++bs b=bs (a++b):=fun a b=>dM a b
   generalize EK 9=E9 at*;have abF:(Pt.Cd.textL x.nm).length<=5000:=by omega
   have abG:(Pt.Cd.textL x.mf).length<=5000:=by omega
   have Z0:=dH (fun w=>Pt.Cd.text_c x.nm w (by omega));have tV:=dH (fun w=>Pt.Cd.text_c x.mf w (by omega));generalize Pt.Cd.textL x.nm=T1 at*;generalize Pt.Cd.textL x.mf=T2 at*;have PK:¬ 9223372036854775807 < E9.length+T1.length:=by omega
   have hA2:¬ 9223372036854775807 < E9.length+T1.length+T2.length:=by omega
   have VX:dG (Pt.Bld wr.drew b0 b0 E9):=dH (show Pt.Bld wr b0 b0 E9 from nJ.o);have VY:=dH (jG.drew hKr.o);have VZ:=dH (Below.drew qS.o);go_wp2_with fail;go_region_held3 (fun w'=>w'.cell? ⟨q0,9,none⟩=some (.string (bs x.nm))/\w'.cell? ⟨q0,10,none⟩=some (.string (bs x.mf)))
    (with_reducible first|exact jG.cells OP.o|exact jG.cells Dl.o|exact jG.cells nT.o|exact jG.cells hKr.o|exact jG.cells (jG.drew hKr.o)|exact jG.cells (jG.drew (jG.drew hKr.o)))
    (first
     |(go_at_call 180;refine (Pt.string_any b0 b0 E9 _ VX.o Bh).mono ?_;rintro e w4 ⟨rfl,hb4⟩;have nT:=dH (jG.below VY.o hb4 De);have fD:=dH (And.intro (VZ.o.trans (hb4.mono (by have:=hKr.o.lt;omega))) (aK Bh hb4.size));clear hb4)
     |(go_at_call 195;refine (Z0.o _).mono ?_;rintro e w5 ⟨rfl,eu⟩;have Dl:=dH (jG.later nT.o eu);have fk:=dH (fD.o.1.trans (eu.mono fD.o.1.size));clear eu)
     |(go_at_call 195;refine (tV.o _).mono ?_;rintro e w6 ⟨rfl,iW⟩;have OP:=dH (jG.later Dl.o iW);have jc:=dF fk iW;clear iW))
   go_wp2_with fail;go_ret2;exact ⟨by rw [<-HEN.o];first|rfl|(rw [bK];rfl),jc.o⟩
theorem qH (x:dV) (hx:D7 x) (hrc:r9 x=0) (w:World):
  Calls prog 198 #[ov x] w (dJ w (.tuple #[.string (bs (gG x)),.int .i64 0])):=by
 cases h:x.dir with
 |false=>exact JY x hx hrc h w
 |true=>exact MR x hx hrc h w
def BX (l:List dV):List Value:=l.flatMap oc
def sG (xs:List dV):Prop:=∀x∈xs,P7 x
abbrev uC (w:World) (B:Nat) (v:Value) (xs:List dV):Prop:=dN w B 11 v xs.length (BX xs)
theorem Aj:(prog.info? 32).map (fun i=>(i.zero,i.size,i.bytes))=some (some (.agg #[.int .i64 0,.int .i64 0,.int .i64 0,.int .i64 0,.int .i64 0,.int .i64 0,.bool false,.int .i64 0,.int .i64 0,.string ⟨#[]⟩,.string ⟨#[]⟩]),11,104):=by kernel_rfl
theorem Tq (x:dV):∀u∈oc x,u.oneCell'=true:=by
 intro u hu;simp only [oc,aR,bJ,or_false] at hu;rcases hu with rfl|rfl|rfl|rfl|rfl|rfl|rfl|rfl|rfl|rfl|rfl <;> rfl
theorem Gn (xs:List dV):∀u∈BX xs,u.oneCell'=true:=by
 intro u hu;obtain ⟨x,_,h⟩:=List.mem_flatMap.1 hu;exact Tq x u h
theorem Src.op {w:World} {g c:Nat} (x:dV) (h:Blk w g 32 (oc x).toArray):Src prog 11 22 (.slice (some ⟨g,0,none⟩) 1 c) 1 (BX [x]) w:=
 Src.ofSlice w underlying22 ⟨g,0,none⟩ 1 c (BX [x]) rfl (fun j u hu=>by
  have:(Addr.mk g 0 none).add j= ⟨g,j,none⟩:=by unfold Addr.add;split <;> simp_all
  rw [this,h.cell,aP];have h1:BX [x]=oc x:=bD _;rw [h1] at hu;exact hu) (Gn _)
theorem dU {P:Program} (w:World) {ops:Array Oper} {rest:List Oper} {o:Oper} {a:Act} {Q:Exit->Act->World->Prop} (hgd:o.guard=none) (s y:Operand) (t tx:TypeId)
  (ho:o.op=.call { callee:=.builtin .append,args:=#[s,y],argTypes:=#[t,tx] })
  (e:TypeId) (i:TypeInfo) (z:Value) (size:Nat) (ht:P.underlying t=some (.slice e)) (hi:P.info? e=some i) (hz:i.zero=some z) (hsize:i.size=size) (hzs:z.cells.size=size) (hsz:0 < size)
  (hs:a.eval s=.slice none 0 0) (x:Value) (hx:a.eval y=x) (m:Nat) (hm:0 < m) (news:List Value) (hsrc:Src P size tx x m news w)
  (h63:m<=maxLen) (hbytes:m*i.bytes<=140737488355328)
  (h:∀cap w',dN w' w.heap.size size (.slice (some ⟨w.heap.size,0,none⟩) m cap) m news->Below w.heap.size w w'->wpList P ops Q rest (a.put o.dst (.slice (some ⟨w.heap.size,0,none⟩) m cap)) w'):wpList P ops Q (o :: rest) a w:=by
 refine dZ w hgd s y t tx ho e i z size ht hi hz hsize hzs hsz w.heap.size _ 0 [] hs (dN.nil_ _ _ _) x hx m news hsrc (by omega) (by rw [aY];exact hbytes) (aB _) ?_;intro v' w' hown hg gE;rw [aY,af] at hown;rcases hown.2 with ⟨_,h0⟩| ⟨g,cap,rfl,_⟩
 ·omega
 ·have Wv:g=w.heap.size:=by
   rcases gE with h1|h1
   ·cases h1
   ·cases h1;rfl
  subst Wv;exact h cap w' hown ((aC _ w).grown hg (aB _) (fun k hk=>by cases hk))
theorem SL:(prog.info? 3).map (fun i=>(i.zero,i.size,i.bytes))=some (some (.int .i64 0),1,8):=by kernel_rfl
theorem Ts {w:World} {A:Option Addr} {n c:Nat} {x:dV} (h:Ia w A n c [x]):∃b off,A=some ⟨b,off,none⟩/\n=1/\1<=c/\c<=9223372036854775807/\b < w.heap.size/\∀j u,(oc x)[j]? =some u->w.cell? ⟨b,off+j,none⟩=some u:=by
 obtain ⟨b,off,cs,e,hlt,hl,⟨rfl,_⟩,hc⟩:=h.4 0 (by simp);have h1:=h.1;have h2:=h.2;simp at h1;exact ⟨b,off,e,h1.symm,by omega,h.3,hlt,fun j u hu=>by have:=hc j u hu;simpa using this⟩
theorem Qj (w:World):Calls prog 126 #[.slice none 0 0] w (dJ w (.slice none 0 0)):=by
 go_enter func126,ntmps126;go_wp2_with fail;refine wp_loop_rounds 1 ?_;rw [rounds_succ];go_wp2_with fail;go_ret;exact ⟨rfl,aC _ _⟩
theorem DB {w:World} {B g cap:Nat} {u:Value} (h:dN w B 1 (.slice (some ⟨g,0,none⟩) 1 cap) 1 [u]):w.cell? ⟨g,0,none⟩=some u/\w.frozen? ⟨g,0,none⟩=false/\1<=cap/\cap<=9223372036854775807/\g < w.heap.size:=by
 rcases h.2 with ⟨h0,_⟩| ⟨g',cap',he,hb,hlt,hnc,hcm,hs,hf,hx⟩
 ·cases h0
 ·simp only [Value.slice.injEq,Option.some.injEq,Addr.mk.injEq,true_and,and_true] at he
  obtain ⟨rfl,rfl⟩:=he;exact ⟨hx 0 u rfl,hf 0 (by omega),hnc,by unfold maxLen at hcm;omega,hlt⟩
theorem Qk {w:World} {g cap:Nat} {u:Value} {n:Int} (hc:w.cell? ⟨g,0,none⟩=some u) (h1:1<=cap) (h2:cap<=9223372036854775807) (hg:g < w.heap.size) (hn:nU n):
  Sl (w.setCell ⟨g,0,none⟩ (.int .i64 n)) 1 ES (some ⟨g,0,none⟩) 1 cap [n]:=
 ⟨rfl,h1,h2,fun i hi=>by
  obtain rfl:i=0:=by simp at hi;omega
  refine ⟨g,0,[.int .i64 n],rfl,by simpa [World.setCell] using hg,rfl,⟨rfl,hn⟩,fun j v hv=>?_⟩
  match j,hv with
  |0,hv=>cases hv;exact World.cell?_setCell_same w ⟨g,0,none⟩ _ hc⟩
theorem Xj {w:World} {A:Option Addr} {n c:Nat} {x:Int} (h:Sl w 1 ES A n c [x]):∃b off,A=some ⟨b,off,none⟩/\n=1/\1<=c/\c<=9223372036854775807/\b < w.heap.size/\w.cell? ⟨b,off,none⟩=some (.int .i64 x):=by
 obtain ⟨b,off,cs,e,hlt,hl,⟨rfl,_⟩,hc⟩:=h.4 0 (by simp);have h1:=h.1;have h2:=h.2;simp at h1;exact ⟨b,off,e,h1.symm,by omega,h.3,hlt,by have:=hc 0 _ rfl;simpa using this⟩
theorem Ql (x:dV) (h0:x.st.2=0) (A:Option Addr) (n c:Nat) (w:World) (hx:Ia w A n c [x]):
  Calls prog 126 #[.slice A n c] w fun e w'=>∃A' c',e=.returned (.slice A' 1 c')/\Sl w' 1 ES A' 1 c' [1]/\Below w.heap.size w w':=by
 obtain ⟨b,off,rfl,rfl,hc1,hc2,hlt,hc⟩:=Ts hx;obtain ⟨i0,hi,hz0,hz1,hz2⟩:=info_parts SL;have c0:=hc 0 _ rfl;have c1:=hc 1 _ rfl;have c2:=hc 2 _ rfl;have c3:=hc 3 _ rfl;have c4:=hc 4 _ rfl;have c5:=hc 5 _ rfl;have c6:=hc 6 _ rfl;have c7:=hc 7 _ rfl;have c8:=hc 8 _ rfl;have c9:=hc 9 _ rfl;have jt:=hc 10 _ rfl;rw [h0] at c1;simp only [bQ] at c0;have HI:=dH hi;have j9:=dH hz0;have gH:=dH hz1;have iH:=dH hz2;clear hc hx h0 hi hz0 hz1 hz2;go_enter func126,ntmps126;go_wp2_with fail;refine wp_loop_rounds 2 ?_;rw [rounds_succ];go_wp2_with fail;refine wp_loop_rounds 2 ?_;rw [rounds_succ];go_wp2_with (at_builtin;refine dU _ rfl (.tmp 26) (.tmp 27) 51 51 rfl 3 i0 (.int .i64 0) 1 underlying51 HI.o j9.o gH.o rfl (by decide) rfl _ rfl 1 (by decide) [.int .i64 0] (Src.one underlying51 (by simp [go_sem]) rfl) (by decide) (by rw [iH.o];decide) ?_)
 intro cap w2 hown dS;obtain ⟨d0,z0,k1,k2,k3⟩:=DB hown;obtain ⟨g,hg⟩:=dB (w.heap.size+1+1);rw [<-hg] at d0 z0 k3;have oO:Below w.heap.size w w2:=(((aC w.heap.size w).alloc (aB _) _).alloc (by simp) _).trans (dS.mono (by omega));have HBW:=dH (oO.setCell (p:=⟨g,0,none⟩) (show w.heap.size<=g by omega) (.int .i64 1));have HS:=dH (Qk d0 k1 k2 k3 (n:=1) (by unfold nU;omega));have HG:=dH hg;clear hown dS oO hg;rw [<-HG.o];go_wp2_with fail;rw [rounds_succ];go_wp2_with fail;rw [rounds_succ];go_wp2_with fail;go_ret;exact ⟨_,_,rfl,HS.o,HBW.o⟩
theorem Tt (v:Value) (w:World):Calls prog 333 #[.slice none 0 0,v] w (dJ w (.slice none 0 0)):=by
 go_enter func333,ntmps333;go_wp2_with fail;refine wp_loop_rounds 1 ?_;rw [rounds_succ];go_wp2_with fail;go_ret;exact ⟨rfl,aC _ _⟩
theorem JZ (x:dV) (h0:x.st.2=0) (hs:x.seq=1) (hn:x.nm.length<=9223372036854775807) (hm:x.mf.length<=9223372036854775807) (A:Option Addr) (n c:Nat) (w:World) (hx:Ia w A n c [x]):
  Calls prog 333 #[.slice A n c,.slice none 0 0] w fun e w'=>∃A' c',e=.returned (.slice A' 1 c')/\dN w' w.heap.size 11 (.slice A' 1 c') 1 (BX [x])/\Below w.heap.size w w':=by
 obtain ⟨⟨s1,s2⟩,seq,kind,node,dir,par,nm,mf⟩:=x;simp only at h0 hs hn hm;subst h0 hs;obtain ⟨b,off,rfl,rfl,hc1,hc2,hlt,hc⟩:=Ts hx;obtain ⟨i0,hi,hz0,hz1,hz2⟩:=info_parts Aj;have c0:=hc 0 _ rfl;have c1:=hc 1 _ rfl;have c2:=hc 2 _ rfl;have c3:=hc 3 _ rfl;have c4:=hc 4 _ rfl;have c5:=hc 5 _ rfl;have c6:=hc 6 _ rfl;have c7:=hc 7 _ rfl;have c8:=hc 8 _ rfl;have c9:=hc 9 _ rfl;have jt:=hc 10 _ rfl;simp only [bQ] at c0;have HI:=dH hi;have j9:=dH hz0;have gH:=dH hz1;have iH:=dH hz2;have abH:dG (Blk ((w.alloc (.cells #[.int .i64 s1,.int .i64 0,.int .i64 1,.int .i64 kind,.int .i64 node.1,.int .i64 node.2,.bool dir,.int .i64 par.1,.int .i64 par.2,.string (bs nm),.string (bs mf)] 32)).alloc (.cells #[.int .i64 s1,.int .i64 0,.int .i64 1,.int .i64 kind,.int .i64 node.1,.int .i64 node.2,.bool dir,.int .i64 par.1,.int .i64 par.2,.string (bs nm),.string (bs mf)] 32)) (w.heap.size+1) 32 (oc ⟨(s1,0),1,kind,node,dir,par,nm,mf⟩).toArray):=dH (by
  have:=Blk.new (w.alloc (.cells (oc ⟨(s1,0),1,kind,node,dir,par,nm,mf⟩).toArray 32)) 32 (oc ⟨(s1,0),1,kind,node,dir,par,nm,mf⟩).toArray
  rwa [show (w.alloc (.cells (oc ⟨(s1,0),1,kind,node,dir,par,nm,mf⟩).toArray 32)).heap.size=w.heap.size+1 from aZ _] at this)
 clear hc hx hi hz0 hz1 hz2;go_enter func333,ntmps333;go_wp2_with fail;refine wp_loop_rounds 2 ?_;rw [rounds_succ];go_wp2_with (at_builtin;refine dU _ rfl (.tmp 36) (.tmp 38) 22 22 rfl 32 i0 (.agg #[.int .i64 0,.int .i64 0,.int .i64 0,.int .i64 0,.int .i64 0,.int .i64 0,.bool false,.int .i64 0,.int .i64 0,.string ⟨#[]⟩,.string ⟨#[]⟩]) 11 underlying22 HI.o j9.o gH.o rfl (by decide) rfl _ rfl 1 (by decide) (BX [⟨(s1,0),1,kind,node,dir,par,nm,mf⟩]) (Src.op ⟨(s1,0),1,kind,node,dir,par,nm,mf⟩ abH.o) (by decide) (by rw [iH.o];decide) ?_)
 intro cap w2 hown dS;have oO:Below w.heap.size w w2:=(((aC w.heap.size w).alloc (aB _) _).alloc (by simp) _).trans (dS.mono (by omega));have HBW:=dH oO;have HO:=dH (dN.mono (B':=w.heap.size) hown (by omega));clear hown dS oO;go_wp2_with fail;rw [rounds_succ];go_wp2_with fail;go_ret;exact ⟨_,_,rfl,HO.o,HBW.o⟩
theorem Ja (x:dV) (h0:x.st.2=0) (hs:x.seq=1) (A:Option Addr) (n c:Nat) (w:World) (hx:Ia w A n c [x]) (A2:Option Addr) (n2 c2:Nat) (hv:Sl w 1 ES A2 n2 c2 [1]):
  Calls prog 333 #[.slice A n c,.slice A2 n2 c2] w (dJ w (.slice none 0 0)):=by
 obtain ⟨⟨s1,s2⟩,seq,kind,node,dir,par,nm,mf⟩:=x;simp only at h0 hs;subst h0 hs;obtain ⟨b,off,rfl,rfl,hc1,hc2,hlt,hc⟩:=Ts hx;obtain ⟨b2,off2,rfl,rfl,tX,hd2,hlt2,d0⟩:=Xj hv;have c0:=hc 0 _ rfl;have c1:=hc 1 _ rfl;have c2:=hc 2 _ rfl;have c3:=hc 3 _ rfl;have c4:=hc 4 _ rfl;have c5:=hc 5 _ rfl;have c6:=hc 6 _ rfl;have c7:=hc 7 _ rfl;have c8:=hc 8 _ rfl;have c9:=hc 9 _ rfl;have jt:=hc 10 _ rfl;simp only [bQ] at c0;clear hc hx hv;go_enter func333,ntmps333;go_wp2_with fail;refine wp_loop_rounds 2 ?_;rw [rounds_succ];go_wp2_with fail;rw [rounds_succ];go_wp2_with fail;go_ret;exact ⟨rfl,(aC _ w).alloc (aB _) _⟩
theorem Tu (x:dV) (w:World):Calls prog 104 #[.slice none 0 0,ov x] w (dJ w (.int .i64 (-1))):=by
 unfold ov;go_enter func104,ntmps104;go_wp2_with fail;refine wp_loop_rounds 1 ?_;rw [rounds_succ];go_wp2_with fail;go_ret;exact ⟨rfl,(aC _ w).alloc (aB _) _⟩
theorem Jb (x:dV) (w:World):Calls prog 57 #[.slice none 0 0,ov x] w (dJ w (.bool false)):=by
 have HI:=dH (Tu x);unfold ov at HI ⊢;go_enter func57,ntmps57;go_wp2_with fail;refine (HI.o _).mono ?_;rintro e w1 ⟨rfl,hb⟩;have HB:=dH (((aC w.heap.size w).alloc (aB _) _).trans (hb.mono (by simp)));clear hb;go_wp2_with fail;go_ret;exact ⟨rfl,HB.o⟩
theorem Xk (x:dV) (hs:x.seq=1) (w:World):Calls prog 58 #[.slice none 0 0,ov x] w (dJ w (.int .i64 0)):=by
 unfold ov;rw [hs];go_enter func58,ntmps58;go_wp2_with fail;refine wp_loop_rounds 1 ?_;rw [rounds_succ];go_wp2_with fail;go_ret;exact ⟨rfl,(aC _ w).alloc (aB _) _⟩
theorem Qm (f:Value) (w:World):Calls prog 59 #[.slice none 0 0,f] w fun e w'=>e=.returned (.int .i64 (-1))/\w=w':=by
 go_enter func59,ntmps59;go_wp2_with fail;refine wp_loop_rounds 1 ?_;rw [rounds_succ];go_wp2_with fail;go_ret;exact ⟨rfl,rfl⟩
theorem MT (w:World):Calls prog 62 #[.slice none 0 0] w fun e w'=>e=.returned (.slice none 0 0)/\w=w':=
 (AnyE.slices_Clone_nil cloneOp 0 0 w).mono fun _ _ ⟨h1,h2⟩=> ⟨h1,h2.symm⟩
theorem jG.all {q:Nat} {x:dV} {w:World} (h:jG q x w):w.cell? ⟨q,0,none⟩=some (.int .i64 x.st.1)/\w.cell? ⟨q,1,none⟩=some (.int .i64 x.st.2)/\w.cell? ⟨q,2,none⟩=some (.int .i64 x.seq)/\w.cell? ⟨q,3,none⟩=some (.int .i64 x.kind)/\w.cell? ⟨q,4,none⟩=some (.int .i64 x.node.1)/\
  w.cell? ⟨q,5,none⟩=some (.int .i64 x.node.2)/\w.cell? ⟨q,6,none⟩=some (.bool x.dir)/\w.cell? ⟨q,7,none⟩=some (.int .i64 x.par.1)/\w.cell? ⟨q,8,none⟩=some (.int .i64 x.par.2)/\w.cell? ⟨q,9,none⟩=some (.string (bs x.nm))/\w.cell? ⟨q,10,none⟩=some (.string (bs x.mf)):=
 ⟨h.blk.cell 0,h.blk.cell 1,h.blk.cell 2,h.blk.cell 3,h.blk.cell 4,h.blk.cell 5,h.blk.cell 6,h.blk.cell 7,h.blk.cell 8,h.blk.cell 9,h.blk.cell 10⟩
theorem jG.alloc {q:Nat} {x:dV} {w:World} (h:jG q x w) (o:Obj):jG q x (w.alloc o):=⟨h.blk.alloc o⟩
theorem Qn (x:dV) (g c:Nat) (w:World) (hs:Blk w g 32 (oc x).toArray):
  Calls prog 61 #[.slice none 0 0,.int .i64 0,.slice (some ⟨g,0,none⟩) 1 c] w fun e w'=>∃g' cap,e=.returned (.slice (some ⟨g',0,none⟩) 1 cap)/\dN w' w.heap.size 11 (.slice (some ⟨g',0,none⟩) 1 cap) 1 (BX [x])/\Below w.heap.size w w':=by
 obtain ⟨i0,hi,hz0,hz1,hz2⟩:=info_parts Aj;have HI:=dH hi;have j9:=dH hz0;have gH:=dH hz1;have iH:=dH hz2;have HS:=dH hs;clear hi hz0 hz1 hz2 hs;go_enter func61,ntmps61;go_wp2_with (at_builtin;refine dU _ rfl (.tmp 23) (.tmp 24) 22 22 rfl 32 i0 (.agg #[.int .i64 0,.int .i64 0,.int .i64 0,.int .i64 0,.int .i64 0,.int .i64 0,.bool false,.int .i64 0,.int .i64 0,.string ⟨#[]⟩,.string ⟨#[]⟩]) 11 underlying22 HI.o j9.o gH.o rfl (by decide) rfl _ rfl 1 (by decide) (BX [x]) (Src.op x HS.o) (by decide) (by rw [iH.o];decide) ?_)
 intro cap w2 hown dS;have HO:=dH hown;have HB:=dH dS;clear hown dS;go_wp2_with fail;go_ret;exact ⟨_,_,rfl,HO.o,HB.o⟩
theorem aaO (x:dV) (hs:x.seq=1) (hrc:r9 x=0) (hn:x.nm.length<=9223372036854775807) (hm:x.mf.length<=9223372036854775807) (w:World):
  Calls prog 19 #[.slice none 0 0,ov x] w fun e w'=>∃g cap,e=.returned (.tuple #[.slice (some ⟨g,0,none⟩) 1 cap,.int .i64 0])/\dN w' w.heap.size 11 (.slice (some ⟨g,0,none⟩) 1 cap) 1 (BX [x])/\Below w.heap.size w w':=by
 have HR:=dH (jL x hn hm);rw [hrc] at HR;have HC:=dH (Jb x);have HF:=dH (Xk x hs);have fq:Blk (w.alloc (.cells (oc x).toArray 32)) w.heap.size 32 (oc x).toArray:=Blk.new w 32 (oc x).toArray;have dR:=dD w (.cells (oc x).toArray 32);obtain ⟨w1,hw1⟩:=dB (w.alloc (.cells (oc x).toArray 32));rw [<-hw1] at fq dR;obtain ⟨q,hq⟩:=dB w.heap.size;rw [<-hq] at fq;have HW:=dH (dK (x:=x) hw1);have HQ:=dH hq;have eH:=dH fq;have X9:=dH dR;clear fq dR hw1 hq hrc hs;unfold ov at HR HC HF ⊢;go_enter func19,ntmps19;go_upto_region 1 with (fail);rw [<-HW.o,<-HQ.o];obtain ⟨c0,c1,c2,c3,c4,c5,c6,c7,c8,c9,jt⟩:=eO eH.o;go_wp2_with fail;refine (HR.o _).mono ?_;rintro e w2 ⟨rfl,dS⟩;have eG:=dH (eH.o.below dS eH.o.lt);have Hb2:=dF X9 dS;clear dS c0 c1 c2 c3 c4 c5 c6 c7 c8 c9 jt HR eH;obtain ⟨c0,c1,c2,c3,c4,c5,c6,c7,c8,c9,jt⟩:=eO eG.o;go_wp2_with fail;refine (HC.o _).mono ?_;rintro e w3 ⟨rfl,di⟩;have dw:=dH (eG.o.below di eG.o.lt);have Hb3:=dF Hb2 di;clear di c0 c1 c2 c3 c4 c5 c6 c7 c8 c9 jt HC eG;obtain ⟨c0,c1,c2,c3,c4,c5,c6,c7,c8,c9,jt⟩:=eO dw.o;go_wp2_with fail;refine (HF.o _).mono ?_;rintro e w4 ⟨rfl,hb4⟩;have fD:=dH (dw.o.below hb4 dw.o.lt);have Hb4:=dF Hb3 hb4;clear hb4 c0 c1 c2 c3 c4 c5 c6 c7 c8 c9 jt HF dw;go_wp2_with fail;refine (Qm _ _).mono ?_;rintro e w5 ⟨rfl,rfl⟩;go_wp2_with fail;have nT:dG (jG q x w4):=dH ⟨fD.o⟩;have abI:dG (Blk (w4.drew.alloc (.cells #[.int .i64 x.st.1,.int .i64 x.st.2,.int .i64 x.seq,.int .i64 x.kind,.int .i64 x.node.1,.int .i64 x.node.2,.bool x.dir,.int .i64 x.par.1,.int .i64 x.par.2,.string (bs x.nm),.string (bs x.mf)] 32)) w4.drew.heap.size 32 (oc x).toArray):=dH (Blk.new w4.drew 32 (oc x).toArray);have Hd4:dG (Below w.heap.size w (w4.drew.alloc (.cells #[.int .i64 x.st.1,.int .i64 x.st.2,.int .i64 x.seq,.int .i64 x.kind,.int .i64 x.node.1,.int .i64 x.node.2,.bool x.dir,.int .i64 x.par.1,.int .i64 x.par.2,.string (bs x.nm),.string (bs x.mf)] 32))):=dH (Hb4.o.drew.alloc Hb4.o.size _);have O2:dG (w.heap.size<=(w4.drew.alloc (.cells #[.int .i64 x.st.1,.int .i64 x.st.2,.int .i64 x.seq,.int .i64 x.kind,.int .i64 x.node.1,.int .i64 x.node.2,.bool x.dir,.int .i64 x.par.1,.int .i64 x.par.2,.string (bs x.nm),.string (bs x.mf)] 32)).heap.size):=dH Hd4.o.size;clear HW fD;go_region_held3 (fun w'=>w'.cell? ⟨q,0,none⟩=some (.int .i64 x.st.1)/\w'.cell? ⟨q,1,none⟩=some (.int .i64 x.st.2)/\w'.cell? ⟨q,2,none⟩=some (.int .i64 x.seq)/\w'.cell? ⟨q,3,none⟩=some (.int .i64 x.kind)/\w'.cell? ⟨q,4,none⟩=some (.int .i64 x.node.1)/\w'.cell? ⟨q,5,none⟩=some (.int .i64 x.node.2)/\w'.cell? ⟨q,6,none⟩=some (.bool x.dir)/\w'.cell? ⟨q,7,none⟩=some (.int .i64 x.par.1)/\w'.cell? ⟨q,8,none⟩=some (.int .i64 x.par.2)/\w'.cell? ⟨q,9,none⟩=some (.string (bs x.nm))/\w'.cell? ⟨q,10,none⟩=some (.string (bs x.mf)))
  (exact jG.all (by repeat (with_reducible first|exact OP.o|exact nT.o|apply jG.drew|apply jG.alloc)))
  (first
   |(go_at_call 62;refine (MT _).mono ?_;rintro e w5 ⟨rfl,rfl⟩)
   |(go_at_call 61;refine (Qn x _ 1 _ abI.o).mono ?_;rintro e w6 ⟨g6,cap,rfl,Ov,iW⟩;have Va:=dH (dN.mono (B':=w.heap.size) Ov (O2.o));have jc:=dH (Hd4.o.trans (iW.mono O2.o));have OP:=dH (jG.later (jG.alloc (jG.drew nT.o) _) iW);clear Ov iW))
 all_goals
  go_wp2_with fail;go_ret2;exact ⟨_,_,rfl,Va.o,jc.o⟩
end
end Go.Proofs.YtgdaahffmcfhpaaGreatDoor
