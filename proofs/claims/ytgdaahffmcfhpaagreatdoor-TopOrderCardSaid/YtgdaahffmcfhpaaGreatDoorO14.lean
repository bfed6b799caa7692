/- Lemmas on the way: Tk VS. -/
import Derived.Deep.Cut
import Derived.Test.YtgdaahffmcfhpaaGreatDoorO13
set_option maxRecDepth 100000
set_option maxHeartbeats 8000000
namespace Go.Proofs.YtgdaahffmcfhpaaGreatDoor
open aA
open Tryz
section
section
variable {P:Program} {md:Region.Mode} {ops:Array Oper} {Q:Exit->Act->World->Prop} {S:World->Prop} {oi:Oper} {v:Value} {fuel:Nat} {listed:Array Bool} {a:Act} {w:World}
theorem taken (i:Nat) (hi:ops[i]? =some oi) (hb:(Region.noSelect ops && Region.free md ops listed i && (Region.ready md ops listed).contains i)=true) (hQ:∀c a w,Q (.panic c) (a.put oi.dst v) w->Q (.panic c) a w) (hS:S w)
  (hw:Region.wanted oi (yielded ops a.tmps)=true) (hy:∀w,S w->(execOp a.eval oi).run P w=.ok (.value v) w) (h:wpAnyH P md ops Q S fuel (listed.setIfInBounds i true) (a.put oi.dst v) w):wpAnyH P md ops Q S (fuel+1) listed a w:=by
 simp only [cO] at hb;exact wpAnyH_take hi hb.1.1 hb.1.2 hb.2 hQ (Or.inl ⟨hw,hy⟩) hS h
theorem eU (i:Nat) (hi:ops[i]? =some oi) (hb:(Region.noSelect ops && Region.free md ops listed i && (Region.ready md ops listed).contains i)=true) (hQ:∀c a w,Q (.panic c) (a.put oi.dst undef) w->Q (.panic c) a w) (hS:S w)
  (hw:Region.wanted oi (yielded ops a.tmps)=false) (h:wpAnyH P md ops Q S fuel (listed.setIfInBounds i true) (a.put oi.dst undef) w):wpAnyH P md ops Q S (fuel+1) listed a w:=by
 simp only [cO] at hb;exact wpAnyH_take hi hb.1.1 hb.1.2 hb.2 hQ (Or.inr ⟨hw,rfl⟩) hS h
theorem ji (i:Nat) (hr:Region.ready md ops listed=[i]) (ho:ops[i]? =some oi)
  (h:∀K':Act->World->Prop,Shut (∀a w,S w->(S w->wpAnyH P md ops Q S fuel (listed.setIfInBounds i true) a w)->K' a w)->if Region.wanted oi (yielded ops a.tmps)=true then Oper.wp P oi a w K' Q else K' (a.put oi.dst undef) w):wpAnyH P md ops Q S (fuel+1) listed a w:=
 wpAnyH_ready hr (by simp) (AllReadyH.cons ho h AllReadyH.nil)
end
end
section
set_option linter.unusedSimpArgs false
set_option linter.unusedVariables false
open Go.RowKit
attribute [local go_sem] dR dO dS dP
def jb (xs:List Nd) (x:dX) (y:Nd):Nd×Bool:=
 if x.kind=2 then ({ y with par:=x.par,nm:=x.nm },gM x.par xs && !decide (x.node∈oW xs x.par))
 else if x.kind=3 then ({ y with mf:=x.mf },!y.dir)
 else if x.kind=4 then ({ y with par:=(0,1) },true)
 else (y,false)
theorem Rz (xs:List Nd) (x:dX) (y:Nd):DG xs x y=if (jb xs x y).2 then some (jb xs x y).1 else none:=by
 unfold DG jb;by_cases h2:x.kind=2
 ·simp [h2]
 by_cases h3:x.kind=3
 ·by_cases hd:y.dir <;> simp [h3,hd]
 by_cases h4:x.kind=4
 ·simp [h4]
 ·simp [h2,h3,h4]
variable {w w0:World} {B q1 q2 q3:Nat} {x:dX}
theorem dx (h:Blk w B 32 (oc x).toArray):w.cell? B=x.st.1/\w.cell? (Qc B 1)=x.st.2/\w.cell? (Qc B 2)=x.seq/\w.cell? (Qc B 3)=x.kind/\w.cell? (Qc B 4)=x.node.1/\w.cell? (Qc B 5)=x.node.2/\w.cell? (Qc B 6)=x.dir/\w.cell? (Qc B 7)=x.par.1/\w.cell? (Qc B 8)=x.par.2/\w.cell? (Qc B 9)=x.nm/\w.cell? (Qc B 10)=x.mf:=
 ⟨h.cell 0,h.cell 1,h.cell 2,h.cell 3,h.cell 4,h.cell 5,h.cell 6,h.cell 7,h.cell 8,h.cell 9,h.cell 10⟩
theorem gP {x:Nd} (h:Blk w B 38 (nc x).toArray):w.frozen? ⟨B,0,none⟩=false/\w.frozen? ⟨B,1,none⟩=false/\w.frozen? ⟨B,2,none⟩=false/\w.frozen? ⟨B,3,none⟩=false/\w.frozen? ⟨B,4,none⟩=false/\w.frozen? ⟨B,5,none⟩=false/\w.frozen? ⟨B,6,none⟩=false:=
 ⟨h.frozen 0,h.frozen 1,h.frozen 2,h.frozen 3,h.frozen 4,h.frozen 5,h.frozen 6⟩
structure fU (B q1 q2 q3:Nat) (w0 w:World) (y z:Nd) (x:dX):Prop where
 b1:Blk w q1 38 (nc y).toArray
 b2:Blk w q2 32 (oc x).toArray
 b3:Blk w q3 38 (nc z).toArray
 below:Below B w0 w
 h1:B<=q1
 h3:B<=q3
 n12:q1≠q2
 n13:q1≠q3
 n23:q2≠q3
theorem fU.after {w':World} {y z:Nd} (h:fU B q1 q2 q3 w0 w y z x) (hb:Below w w w') (hs:B<=w.heap.size):fU B q1 q2 q3 w0 w' y z x:=
 ⟨h.b1.below hb h.b1.lt,h.b2.below hb h.b2.lt,h.b3.below hb h.b3.lt,h.below.trans (hb.mono hs),h.h1,h.h3,h.n12,h.n13,h.n23⟩
theorem fU.size {y z:Nd} (h:fU B q1 q2 q3 w0 w y z x):B<=w.heap.size:=ag (Nat.lt_of_le_of_lt h.h1 h.b1.lt)
theorem fU.last {y z:Nd} (h:fU B q1 q2 q3 w0 w y z x):Blk (jJ w q3 y) q3 38 (nc y).toArray/\Below B w0 (jJ w q3 y):=⟨jw y h.b3,ij h.below h.h3 y⟩
theorem fU.set1 {y z:Nd} (h:fU B q1 q2 q3 w0 w y z x) (i:Nat) (u:Value) (y':Nd) (he:(nc y).toArray.setIfInBounds i u=(nc y').toArray):fU B q1 q2 q3 w0 (w.setCell (Qc q1 i) u) y' z x:=
 ⟨he ▸ Blk.set_ h.b1 i u,Blk.far h.b2 (λe=>h.n12 e.symm) u,Blk.far h.b3 (λe=>h.n13 e.symm) u,h.below.setCell (p:=Qc q1 i) h.h1 u,h.h1,h.h3,h.n12,h.n13,h.n23⟩
theorem fU.par {B q1 q2 q3:Nat} {w0 w:World} {y z:Nd} {x:dX} (h:fU B q1 q2 q3 w0 w y z x) (p:St):fU B q1 q2 q3 w0 ((w.setCell (Qc q1 3) p.1).setCell (Qc q1 4) p.2) { y with par:=p } z x:=
 (h.set1 3 (.int .i64 p.1) { y with par:=(p.1,y.par.2) } (by simp [nc])).set1 4 (.int .i64 p.2) { y with par:=p } (by simp [nc])
theorem fU.nm {y z:Nd} (h:fU B q1 q2 q3 w0 w y z x) (s:List UInt8):fU B q1 q2 q3 w0 (w.setCell (Qc q1 5) s) { y with nm:=s } z x:=h.set1 5 _ _ (by simp [nc])
theorem fU.mf {y z:Nd} (h:fU B q1 q2 q3 w0 w y z x) (s:List UInt8):fU B q1 q2 q3 w0 (w.setCell (Qc q1 6) s) { y with mf:=s } z x:=h.set1 6 _ _ (by simp [nc])
theorem fU.drew {B q1 q2 q3:Nat} {w0 w:World} {y z:Nd} {x:dX} (h:fU B q1 q2 q3 w0 w y z x):fU B q1 q2 q3 w0 w.drew y z x:=⟨h.b1,h.b2,h.b3,h.below.drew,h.h1,h.h3,h.n12,h.n13,h.n23⟩
theorem fU.reads {y z:Nd} (h:fU B q1 q2 q3 w0 w y z x):w.cell? q1=y.id.1/\w.cell? (Qc q1 1)=y.id.2/\w.cell? (Qc q1 2)=y.dir/\w.cell? (Qc q1 3)=y.par.1/\w.cell? (Qc q1 4)=y.par.2/\w.cell? (Qc q1 5)=y.nm/\w.cell? (Qc q1 6)=y.mf/\
  w.cell? (Qc q2 4)=x.node.1/\w.cell? (Qc q2 5)=x.node.2/\w.cell? (Qc q2 7)=x.par.1/\w.cell? (Qc q2 8)=x.par.2:=
 ⟨h.b1.cell 0,h.b1.cell 1,h.b1.cell 2,h.b1.cell 3,h.b1.cell 4,h.b1.cell 5,h.b1.cell 6,h.b2.cell 4,h.b2.cell 5,h.b2.cell 7,h.b2.cell 8⟩
theorem rX {g:Nat} {t:TypeId} {cs:Array Value} (h:Blk w g t cs) (hne:g≠B) (x:Nd):Blk (jJ w B x) g t cs:=by
 unfold jJ;exact Blk.far (Blk.far (Blk.far (Blk.far (Blk.far (Blk.far (Blk.far h hne _) hne _) hne _) hne _) hne _) hne _) hne _
theorem fU.put {y z:Nd} (h:fU B q1 q2 q3 w0 w y z x) (u:Nd):fU B q1 q2 q3 w0 (jJ w q3 u) y u x:=
 ⟨rX h.b1 h.n13 u,rX h.b2 h.n23 u,jw u h.b3,ij h.below h.h3 u,h.h1,h.h3,h.n12,h.n13,h.n23⟩
theorem BX (y:Nd) (x:dX) (w:World):∃w3 q1 q2 q3,w3=((w.alloc (.cells (nc y).toArray 38)).alloc (.cells (oc x).toArray 32)).alloc (.cells (nc nd0).toArray 38)/\q1=w.heap.size/\q2=w.heap.size+1/\q3=w.heap.size+1+1/\fU w q1 q2 q3 w w3 y nd0 x:=by
 refine ⟨_,_,_,_,rfl,rfl,rfl,rfl,?_⟩;have h1:=(Blk.new w 38 (nc y).toArray).alloc (.cells (oc x).toArray 32);have h2:=Blk.new2 w (.cells (nc y).toArray 38) 32 (oc x).toArray;have h3:=Blk.new2 (w.alloc (.cells (nc y).toArray 38)) (.cells (oc x).toArray 32) 38 (nc nd0).toArray;have e:(w.alloc (.cells (nc y).toArray 38)).heap.size=w.heap.size+1:=ai _;rw [e] at h3;have b0:=(aC w w).alloc (aB _) (.cells (nc y).toArray 38);have b1:=b0.alloc b0.size (.cells (oc x).toArray 32);exact ⟨h1.alloc _,h2.alloc _,h3,b1.alloc b1.size _,aB _,by omega,by omega,by omega,by omega⟩
theorem Fw (y:Nd) (x:dX) (A:Option Addr) (n c:Nat) (xs:List Nd) (w:World) (hx:lu w A n c xs) (hm:n<=100000):
  Calls prog 110 #[Qq A n c,nv y,ov x] w (dM w (.tuple #[nv (jb xs x y).1,.bool (jb xs x y).2])):=by
 have hn:=hx.len;have lg:=hx.max;have hle:=hx.le;obtain ⟨w3,q1,q2,q3,jD,hq1,ig,jG,hT⟩:=BX y x w;have hx3:=hx.below hT.below;have HX:=dL hx3;have HT:=dL hT;have HW:=dL (show w3=((w.alloc (.cells #[y.id.1,y.id.2,y.dir,y.par.1,y.par.2,y.nm,y.mf] 38)).alloc (.cells #[x.st.1,x.st.2,x.seq,x.kind,x.node.1,x.node.2,x.dir,x.par.1,x.par.2,x.nm,x.mf] 32)).alloc (.cells #[qn,qn,false,qn,qn,yj,yj] 38) from jD);have HQ:=dL (And.intro hq1 (And.intro ig jG));obtain ⟨c0,c1,c2,c3,c4,c5,c6⟩:=eW hT.b1;obtain ⟨f0,f1,f2,f3,f4,f5,f6⟩:=gP hT.b1;obtain ⟨o0,o1,o2,o3,o4,o5,o6,o7,o8,o9,sY⟩:=dx hT.b2;have n12:=hT.n12;have n13:=hT.n13;have n23:=hT.n23;have n21:=n12.symm;have n31:=n13.symm;have n32:=n23.symm;obtain ⟨r0,r1,r2,r3,r4,r5,r6⟩:=eW hT.b3;obtain ⟨g0,g1,g2,g3,g4,g5,g6⟩:=gP hT.b3;clear hT jD hq1 ig jG hx3;unfold nv ov jb;by_cases h4:x.kind=4
 ·have e2:(x.kind ==2)=false:=by rw [h4];rfl
  have e3:(x.kind ==3)=false:=by rw [h4];rfl
  have e4:(x.kind ==4)=true:=by rw [h4];rfl
  rw [if_neg (by rw [h4];decide),if_neg (by rw [h4];decide),if_pos h4];clear h4;go_enter func110,ntmps110;go_upto_region 1 with (fail);rw [<-HW.o,<-HQ.o.2.2,<-HQ.o.2.1,<-HQ.o.1];go_wp2_with fail;refine (DC w3).mono ?_;rintro e w4 ⟨rfl,hb4⟩;have T4:=HT.o.after hb4 HT.o.size;clear c0 c1 c2 c3 c4 c5 c6 f0 f1 f2 f3 f4 f5 f6 o0 o1 o2 o3 o4 o5 o6 o7 o8 o9 sY r0 r1 r2 r3 r4 r5 r6 g0 g1 g2 g3 g4 g5 g6 hb4;obtain ⟨c0,c1,c2,c3,c4,c5,c6⟩:=eW T4.b1;obtain ⟨f0,f1,f2,f3,f4,f5,f6⟩:=gP T4.b1;obtain ⟨r0,r1,r2,r3,r4,r5,r6⟩:=eW T4.b3;obtain ⟨g0,g1,g2,g3,g4,g5,g6⟩:=gP T4.b3;have T5:=fU.par T4 (0,1);obtain ⟨z0,hz0⟩:=T5.last;obtain ⟨t0,t1,t2,t3,t4,t5,t6⟩:=eW z0;unfold jJ at hz0 t0 t1 t2 t3 t4 t5 t6;have HZ:=dL hz0;clear T4 T5 z0 hz0;go_wp2_with fail;exact bodyPost_ret (v:=.tuple #[.agg #[y.id.1,y.id.2,y.dir,qn,yh,y.nm,y.mf],true]) (by simp [results,results110,go_sem,t0,t1,t2,t3,t4,t5,t6]) rfl ⟨rfl,HZ.o⟩
 have e4:(x.kind ==4)=false:=by simpa using h4
 by_cases h3:x.kind=3
 ·have e2:(x.kind ==2)=false:=by rw [h3];rfl
  have e3:(x.kind ==3)=true:=by rw [h3];rfl
  rw [if_neg (by rw [h3];decide),if_pos h3];clear h3 h4;go_enter func110,ntmps110;go_upto_region 1 with (fail);rw [<-HW.o,<-HQ.o.2.2,<-HQ.o.2.1,<-HQ.o.1];go_upto_region 7 with (fail);have T5:=fU.mf HT.o x.mf;obtain ⟨w5,iB⟩:=dG (w3.setCell (Qc q1 6) x.mf);rw [<-iB] at T5;rw [<-iB];have iM:=dL T5;clear iB c0 c1 c2 c3 c4 c5 c6 f0 f1 f2 f3 f4 f5 f6 o0 o1 o2 o3 o4 o5 o6 o7 o8 o9 sY r0 r1 r2 r3 r4 r5 r6 g0 g1 g2 g3 g4 g5 g6;obtain ⟨c0,c1,c2,c3,c4,c5,c6⟩:=eW T5.b1;obtain ⟨r0,r1,r2,r3,r4,r5,r6⟩:=eW T5.b3;obtain ⟨g0,g1,g2,g3,g4,g5,g6⟩:=gP T5.b3;obtain ⟨z0,hz0⟩:=T5.last;obtain ⟨t0,t1,t2,t3,t4,t5,t6⟩:=eW z0;unfold jJ at hz0 t0 t1 t2 t3 t4 t5 t6;have HZ:=dL hz0;clear T5 z0 hz0;go_region;go_wp2_with fail;exact bodyPost_ret (v:=.tuple #[.agg #[y.id.1,y.id.2,y.dir,y.par.1,y.par.2,y.nm,x.mf],(!y.dir)]) (by simp [results,results110,go_sem,t0,t1,t2,t3,t4,t5,t6]) rfl ⟨rfl,HZ.o.drew⟩
 have e3:(x.kind ==3)=false:=by simpa using h3
 by_cases h2:x.kind=2
 ·have e2:(x.kind ==2)=true:=by rw [h2];rfl
  rw [if_pos h2];clear h2 h3 h4;go_enter func110,ntmps110;go_upto_region 1 with (fail);rw [<-HW.o,<-HQ.o.2.2,<-HQ.o.2.1,<-HQ.o.1];go_upto_region 3 with (fail);have T5:=fU.nm (fU.par HT.o x.par) x.nm;clear r0 r1 r2 r3 r4 r5 r6 g0 g1 g2 g3 g4 g5 g6;go_region;obtain ⟨w5,iB⟩:=dG ((((w3.setCell (Qc q1 3) x.par.1).setCell (Qc q1 4) x.par.2).setCell (Qc q1 5) x.nm).drew);rw [<-iB];have Ey:dK (lu w5 A n c xs):=by
   rw [iB];exact hx.below (T5.below.drew)
  have iM:dK (fU w q1 q2 q3 w w5 ⟨y.id,y.dir,x.par,x.nm,y.mf⟩ nd0 x):=by rw [iB];exact T5.drew
  have ug:=dL (λ(w':World) (h:lu w' A n c xs)=>zy x.par A n c xs w' h);have HCh:=dL (λ(w':World) (h:lu w' A n c xs)=>K4 x.par A n c xs w' h (by omega));unfold sv at ug HCh;clear T5 iB c0 c1 c2 c3 c4 c5 c6 f0 f1 f2 f3 f4 f5 f6 o0 o1 o2 o3 o4 o5 o6 o7 o8 o9 sY hx hm hn lg hle;go_upto_region 4 with (fail);cases ht:gM x.par xs with
  |true=>
   rw [ht] at ug;have RE:=dL ht;clear ht;go_region_held3 (λw'=>w'.cell? q1=y.id.1/\w'.cell? (Qc q1 1)=y.id.2/\w'.cell? (Qc q1 2)=y.dir/\w'.cell? (Qc q1 3)=x.par.1/\w'.cell? (Qc q1 4)=x.par.2/\w'.cell? (Qc q1 5)=x.nm/\w'.cell? (Qc q1 6)=y.mf/\
     w'.cell? (Qc q2 4)=x.node.1/\w'.cell? (Qc q2 5)=x.node.2/\w'.cell? (Qc q2 7)=x.par.1/\w'.cell? (Qc q2 8)=x.par.2)
    (first|with_reducible exact HT8.o.reads|exact (HT8.o.put ⟨y.id,y.dir,x.par,x.nm,y.mf⟩).reads|with_reducible exact tw.o.reads|with_reducible exact oA.o.reads|exact iM.o.reads)
    (first
     |(go_at_call 107;refine (ug.o _ (Ey.o.below (aC _ _).drew)).mono ?_;rintro e w6 ⟨rfl,jr⟩;have oA:=dL (iM.o.drew.after jr iM.o.size);have XO:=dL ((Ey.o.below (aC _ _).drew).below jr);clear jr)
     |(go_at_call 11;refine (HCh.o _ XO.o).mono ?_;rintro e w7 ⟨v7,rfl,Zd,lq⟩;obtain ⟨A7,c7,rfl,hS7⟩:=ux.sts Zd;have tw:=dL (oA.o.after lq oA.o.size);have MT:=dL hS7;clear lq Zd hS7)
     |(go_at_call 164;refine (DE x.node A7 _ c7 (oW xs x.par) _ MT.o).mono ?_;rintro e w8 ⟨rfl,uk⟩;have hT8:=tw.o.after uk tw.o.size;have HT8:=dL hT8;obtain ⟨r0,r1,r2,r3,r4,r5,r6⟩:=eW hT8.b3;obtain ⟨g0,g1,g2,g3,g4,g5,g6⟩:=gP hT8.b3;clear uk hT8))
   have hP:=HT8.o.put ⟨y.id,y.dir,x.par,x.nm,y.mf⟩;obtain ⟨t0,t1,t2,t3,t4,t5,t6⟩:=eW hP.b3;have hz0:=hP.below;unfold jJ at hz0 t0 t1 t2 t3 t4 t5 t6;have HZ:=dL hz0;clear hP hz0 r0 r1 r2 r3 r4 r5 r6 g0 g1 g2 g3 g4 g5 g6;go_wp2_with fail;exact bodyPost_ret (v:=.tuple #[.agg #[y.id.1,y.id.2,y.dir,x.par.1,x.par.2,x.nm,y.mf],(!decide (x.node∈oW xs x.par))]) (by simp [results,results110,go_sem,t0,t1,t2,t3,t4,t5,t6]) rfl ⟨by rw [RE.o,Bool.true_and],HZ.o⟩
  |false=>
   rw [ht] at ug;have RE:=dL ht;clear ht HCh;have hT5:=iM.o;obtain ⟨o0,o1,o2,o3,o4,o5,o6,o7,o8,o9,sY⟩:=dx hT5.b2;obtain ⟨c0,c1,c2,c3,c4,c5,c6⟩:=eW hT5.b1;clear hT5;refine wp_region_noPanic ?_;refine wp_region_held_drew (S:=λw'=>w'.cell? q1=y.id.1/\w'.cell? (Qc q1 1)=y.id.2/\w'.cell? (Qc q1 2)=y.dir/\w'.cell? (Qc q1 3)=x.par.1/\w'.cell? (Qc q1 4)=x.par.2/\w'.cell? (Qc q1 5)=x.nm/\w'.cell? (Qc q1 6)=y.mf/\
     w'.cell? (Qc q2 4)=x.node.1/\w'.cell? (Qc q2 5)=x.node.2/\w'.cell? (Qc q2 7)=x.par.1/\w'.cell? (Qc q2 8)=x.par.2) (by kernel_rfl) iM.o.reads (λdZ=>?_)
   refine wpAnyH_take (i:=1) (v:=?_) rfl (by kernel_rfl) (by kernel_rfl) (by kernel_rfl) (λ_ _ _ h=>h) (Or.inl ⟨by rfl,?_⟩) dZ ?_
   rotate_left
   ·(intro w fO;(try dsimp only at fO);go_simp;first|done|with_reducible rfl)
   (try simp only [Act.put,aH,aF,aG])
   refine wpAnyH_take (i:=2) (v:=?_) rfl (by kernel_rfl) (by kernel_rfl) (by kernel_rfl) (λ_ _ _ h=>h) (Or.inl ⟨by rfl,?_⟩) dZ ?_
   rotate_left
   ·(intro w fO;(try dsimp only at fO);go_simp;first|done|with_reducible rfl)
   (try simp only [Act.put,aH,aF,aG])
   refine wpAnyH_take (i:=3) (v:=?_) rfl (by kernel_rfl) (by kernel_rfl) (by kernel_rfl) (λ_ _ _ h=>h) (Or.inl ⟨by rfl,?_⟩) dZ ?_
   rotate_left
   ·(intro w fO;(try dsimp only at fO);go_simp;first|done|with_reducible rfl)
   (try simp only [Act.put,aH,aF,aG])
   refine wpAnyH_take (i:=0) (v:=?_) rfl (by kernel_rfl) (by kernel_rfl) (by kernel_rfl) (λ_ _ _ h=>h) (Or.inl ⟨by rfl,?_⟩) dZ ?_
   rotate_left
   ·(intro w fO;(try dsimp only at fO);go_simp;first|done|with_reducible rfl)
   (try simp only [Act.put,aH,aF,aG])
   refine ji 4 (by kernel_rfl) rfl (λK hK=>?_);go_simp;refine (ug.o _ (Ey.o.below (aC _ _).drew)).mono ?_;rintro e w6 ⟨rfl,jr⟩;have hT6:=iM.o.drew.after jr iM.o.size;have oA:=dL hT6;obtain ⟨r0,r1,r2,r3,r4,r5,r6⟩:=eW hT6.b3;obtain ⟨g0,g1,g2,g3,g4,g5,g6⟩:=gP hT6.b3;clear jr hT6;refine hK.out _ _ oA.o.reads (λdZ=>?_);clear hK K
   (try simp only [Act.put,aH,aF,aG])
   refine wpAnyH_take (i:=5) (v:=?_) rfl (by kernel_rfl) (by kernel_rfl) (by kernel_rfl) (λ_ _ _ h=>h) (Or.inl ⟨by rfl,?_⟩) dZ ?_
   rotate_left
   ·(intro w fO;(try dsimp only at fO);go_simp;first|done|with_reducible rfl)
   (try simp only [Act.put,aH,aF,aG])
   refine eU 6 rfl (by kernel_rfl) (λ_ _ _ h=>h) dZ (by kernel_rfl) ?_
   (try simp only [Act.put,aH,aF,aG])
   refine eU 7 rfl (by kernel_rfl) (λ_ _ _ h=>h) dZ (by kernel_rfl) ?_
   (try simp only [Act.put,aH,aF,aG])
   refine eU 8 rfl (by kernel_rfl) (λ_ _ _ h=>h) dZ (by kernel_rfl) ?_
   (try simp only [Act.put,aH,aF,aG])
   refine eU 9 rfl (by kernel_rfl) (λ_ _ _ h=>h) dZ (by kernel_rfl) ?_
   (try simp only [Act.put,aH,aF,aG])
   refine eU 10 rfl (by kernel_rfl) (λ_ _ _ h=>h) dZ (by kernel_rfl) ?_
   (try simp only [Act.put,aH,aF,aG])
   refine eU 11 rfl (by kernel_rfl) (λ_ _ _ h=>h) dZ (by kernel_rfl) ?_
   (try simp only [Act.put,aH,aF,aG])
   refine eU 12 rfl (by kernel_rfl) (λ_ _ _ h=>h) dZ (by kernel_rfl) ?_
   (try simp only [Act.put,aH,aF,aG])
   refine eU 13 rfl (by kernel_rfl) (λ_ _ _ h=>h) dZ (by kernel_rfl) ?_
   (try simp only [Act.put,aH,aF,aG])
   refine wpAnyH_take (i:=14) (v:=?_) rfl (by kernel_rfl) (by kernel_rfl) (by kernel_rfl) (λ_ _ _ h=>h) (Or.inl ⟨by rfl,?_⟩) dZ ?_
   rotate_left
   ·(intro w fO;(try dsimp only at fO);go_simp;first|done|with_reducible rfl)
   (try simp only [Act.put,aH,aF,aG])
   refine ji 15 (by kernel_rfl) rfl (λK hK=>?_);go_simp;refine hK.out _ _ (oA.o.put ⟨y.id,y.dir,x.par,x.nm,y.mf⟩).reads (λdZ=>?_);clear hK K
   (try simp only [Act.put,aH,aF,aG])
   refine wpAnyH_take (i:=16) (v:=?_) rfl (by kernel_rfl) (by kernel_rfl) (by kernel_rfl) (λ_ _ _ h=>h) (Or.inl ⟨by rfl,?_⟩) dZ ?_
   rotate_left
   ·(intro w fO;(try dsimp only at fO);go_simp;first|done|with_reducible rfl)
   (try simp only [Act.put,aH,aF,aG])
   refine wpAnyH_done (by kernel_rfl) ?_ _;refine NoPanic.normal ?_;have hP:=oA.o.put ⟨y.id,y.dir,x.par,x.nm,y.mf⟩;obtain ⟨t0,t1,t2,t3,t4,t5,t6⟩:=eW hP.b3;have hz0:=hP.below;unfold jJ at hz0 t0 t1 t2 t3 t4 t5 t6;have HZ:=dL hz0;clear hP hz0 r0 r1 r2 r3 r4 r5 r6 g0 g1 g2 g3 g4 g5 g6;go_wp2_with fail;exact bodyPost_ret (v:=.tuple #[.agg #[y.id.1,y.id.2,y.dir,x.par.1,x.par.2,x.nm,y.mf],false]) (by simp [results,results110,go_sem,t0,t1,t2,t3,t4,t5,t6]) rfl ⟨by rw [RE.o,Bool.false_and],HZ.o⟩
 ·have e2:(x.kind ==2)=false:=by simpa using h2
  rw [if_neg h2,if_neg h3,if_neg h4];clear h2 h3 h4;obtain ⟨z0,hz0⟩:=HT.o.last;obtain ⟨t0,t1,t2,t3,t4,t5,t6⟩:=eW z0;unfold jJ at hz0 t0 t1 t2 t3 t4 t5 t6;have HZ:=dL hz0;clear z0 hz0;go_enter func110,ntmps110;go_upto_region 1 with (fail);rw [<-HW.o,<-HQ.o.2.2,<-HQ.o.2.1,<-HQ.o.1];go_wp2_with fail;exact bodyPost_ret (v:=.tuple #[.agg #[y.id.1,y.id.2,y.dir,y.par.1,y.par.2,y.nm,y.mf],false]) (by simp [results,results110,go_sem,t0,t1,t2,t3,t4,t5,t6]) rfl ⟨rfl,HZ.o⟩
end
end Go.Proofs.YtgdaahffmcfhpaaGreatDoor
