/- Lemmas on the way: VS. -/
import Derived.Deep.Cut
import Derived.Test.YtgdaahffmcfhpaaGreatDoorT23
import Derived.Test.YtgdaahffmcfhpaaGreatDoorT00
set_option maxRecDepth 100000
set_option maxHeartbeats 8000000
namespace Go.Proofs.YtgdaahffmcfhpaaGreatDoor
open Tryz
section
set_option linter.unusedSimpArgs false
set_option linter.unusedVariables false
open Go.RowKit
attribute [local go_sem] dO dL dQ dM
def fe (xs:List Nd) (x:dV) (y:Nd):Nd×Bool:=
 if x.kind=2 then ({ y with par:=x.par,nm:=x.nm },fI x.par xs && !decide (x.node∈i6 xs x.par))
 else if x.kind=3 then ({ y with mf:=x.mf },!y.dir)
 else if x.kind=4 then ({ y with par:=(0,1) },true)
 else (y,false)
theorem QO (xs:List Nd) (x:dV) (y:Nd):C6 xs x y=if (fe xs x y).2 then some (fe xs x y).1 else none:=by
 unfold C6 fe;by_cases h2:x.kind=2
 ·simp [h2]
 by_cases h3:x.kind=3
 ·by_cases hd:y.dir <;> simp [h3,hd]
 by_cases h4:x.kind=4
 ·simp [h4]
 ·simp [h2,h3,h4]
theorem eO {w:World} {B:Nat} {x:dV} (h:Blk w B 32 (oc x).toArray):w.cell? ⟨B,0,none⟩=some (.int .i64 x.st.1)/\w.cell? ⟨B,1,none⟩=some (.int .i64 x.st.2)/\w.cell? ⟨B,2,none⟩=some (.int .i64 x.seq)/\w.cell? ⟨B,3,none⟩=some (.int .i64 x.kind)/\w.cell? ⟨B,4,none⟩=some (.int .i64 x.node.1)/\w.cell? ⟨B,5,none⟩=some (.int .i64 x.node.2)/\w.cell? ⟨B,6,none⟩=some (.bool x.dir)/\w.cell? ⟨B,7,none⟩=some (.int .i64 x.par.1)/\w.cell? ⟨B,8,none⟩=some (.int .i64 x.par.2)/\w.cell? ⟨B,9,none⟩=some (.string (bs x.nm))/\w.cell? ⟨B,10,none⟩=some (.string (bs x.mf)):=
 ⟨h.cell 0,h.cell 1,h.cell 2,h.cell 3,h.cell 4,h.cell 5,h.cell 6,h.cell 7,h.cell 8,h.cell 9,h.cell 10⟩
theorem gC {w:World} {B:Nat} {x:Nd} (h:Blk w B 38 (nc x).toArray):w.frozen? ⟨B,0,none⟩=false/\w.frozen? ⟨B,1,none⟩=false/\w.frozen? ⟨B,2,none⟩=false/\w.frozen? ⟨B,3,none⟩=false/\w.frozen? ⟨B,4,none⟩=false/\w.frozen? ⟨B,5,none⟩=false/\w.frozen? ⟨B,6,none⟩=false:=
 ⟨h.frozen 0,h.frozen 1,h.frozen 2,h.frozen 3,h.frozen 4,h.frozen 5,h.frozen 6⟩
structure fM (B q1 q2 q3:Nat) (w0 w:World) (y z:Nd) (x:dV):Prop where
 b1:Blk w q1 38 (nc y).toArray
 b2:Blk w q2 32 (oc x).toArray
 b3:Blk w q3 38 (nc z).toArray
 below:Below B w0 w
 h1:B<=q1
 h3:B<=q3
 n12:q1≠q2
 n13:q1≠q3
 n23:q2≠q3
theorem fM.after {B q1 q2 q3:Nat} {w0 w w':World} {y z:Nd} {x:dV} (h:fM B q1 q2 q3 w0 w y z x) (hb:Below w.heap.size w w') (hs:B<=w.heap.size):fM B q1 q2 q3 w0 w' y z x:=
 ⟨h.b1.below hb h.b1.lt,h.b2.below hb h.b2.lt,h.b3.below hb h.b3.lt,h.below.trans (hb.mono hs),h.h1,h.h3,h.n12,h.n13,h.n23⟩
theorem fM.size {B q1 q2 q3:Nat} {w0 w:World} {y z:Nd} {x:dV} (h:fM B q1 q2 q3 w0 w y z x):B<=w.heap.size:=ay (Nat.lt_of_le_of_lt h.h1 h.b1.lt)
theorem fM.last {B q1 q2 q3:Nat} {w0 w:World} {y z:Nd} {x:dV} (h:fM B q1 q2 q3 w0 w y z x):Blk (jI w q3 y) q3 38 (nc y).toArray/\Below B w0 (jI w q3 y):=⟨kR y h.b3,iL h.below h.h3 y⟩
theorem fM.set1 {B q1 q2 q3:Nat} {w0 w:World} {y z:Nd} {x:dV} (h:fM B q1 q2 q3 w0 w y z x) (i:Nat) (u:Value) (y':Nd) (he:(nc y).toArray.setIfInBounds i u=(nc y').toArray):fM B q1 q2 q3 w0 (w.setCell ⟨q1,i,none⟩ u) y' z x:=
 ⟨he ▸ Blk.set_ h.b1 i u,Blk.far h.b2 (fun e=>h.n12 e.symm) u,Blk.far h.b3 (fun e=>h.n13 e.symm) u,h.below.setCell (p:=⟨q1,i,none⟩) h.h1 u,h.h1,h.h3,h.n12,h.n13,h.n23⟩
theorem fM.par {B q1 q2 q3:Nat} {w0 w:World} {y z:Nd} {x:dV} (h:fM B q1 q2 q3 w0 w y z x) (p:St):fM B q1 q2 q3 w0 ((w.setCell ⟨q1,3,none⟩ (.int .i64 p.1)).setCell ⟨q1,4,none⟩ (.int .i64 p.2)) { y with par:=p } z x:=
 (h.set1 3 (.int .i64 p.1) { y with par:=(p.1,y.par.2) } (by simp [nc])).set1 4 (.int .i64 p.2) { y with par:=p } (by simp [nc])
theorem fM.nm {B q1 q2 q3:Nat} {w0 w:World} {y z:Nd} {x:dV} (h:fM B q1 q2 q3 w0 w y z x) (s:List UInt8):fM B q1 q2 q3 w0 (w.setCell ⟨q1,5,none⟩ (.string (bs s))) { y with nm:=s } z x:=h.set1 5 _ _ (by simp [nc])
theorem fM.mf {B q1 q2 q3:Nat} {w0 w:World} {y z:Nd} {x:dV} (h:fM B q1 q2 q3 w0 w y z x) (s:List UInt8):fM B q1 q2 q3 w0 (w.setCell ⟨q1,6,none⟩ (.string (bs s))) { y with mf:=s } z x:=h.set1 6 _ _ (by simp [nc])
theorem fM.drew {B q1 q2 q3:Nat} {w0 w:World} {y z:Nd} {x:dV} (h:fM B q1 q2 q3 w0 w y z x):fM B q1 q2 q3 w0 w.drew y z x:=⟨h.b1,h.b2,h.b3,h.below.drew,h.h1,h.h3,h.n12,h.n13,h.n23⟩
theorem fM.reads {B q1 q2 q3:Nat} {w0 w:World} {y z:Nd} {x:dV} (h:fM B q1 q2 q3 w0 w y z x):w.cell? ⟨q1,0,none⟩=some (.int .i64 y.id.1)/\w.cell? ⟨q1,1,none⟩=some (.int .i64 y.id.2)/\w.cell? ⟨q1,2,none⟩=some (.bool y.dir)/\w.cell? ⟨q1,3,none⟩=some (.int .i64 y.par.1)/\w.cell? ⟨q1,4,none⟩=some (.int .i64 y.par.2)/\w.cell? ⟨q1,5,none⟩=some (.string (bs y.nm))/\w.cell? ⟨q1,6,none⟩=some (.string (bs y.mf))/\
  w.cell? ⟨q2,4,none⟩=some (.int .i64 x.node.1)/\w.cell? ⟨q2,5,none⟩=some (.int .i64 x.node.2)/\w.cell? ⟨q2,7,none⟩=some (.int .i64 x.par.1)/\w.cell? ⟨q2,8,none⟩=some (.int .i64 x.par.2):=
 ⟨h.b1.cell 0,h.b1.cell 1,h.b1.cell 2,h.b1.cell 3,h.b1.cell 4,h.b1.cell 5,h.b1.cell 6,h.b2.cell 4,h.b2.cell 5,h.b2.cell 7,h.b2.cell 8⟩
theorem qv {w:World} {B g:Nat} {t:TypeId} {cs:Array Value} (h:Blk w g t cs) (hne:g≠B) (x:Nd):Blk (jI w B x) g t cs:=by
 unfold jI;exact Blk.far (Blk.far (Blk.far (Blk.far (Blk.far (Blk.far (Blk.far h hne _) hne _) hne _) hne _) hne _) hne _) hne _
theorem fM.put {B q1 q2 q3:Nat} {w0 w:World} {y z:Nd} {x:dV} (h:fM B q1 q2 q3 w0 w y z x) (u:Nd):fM B q1 q2 q3 w0 (jI w q3 u) y u x:=
 ⟨qv h.b1 h.n13 u,qv h.b2 h.n23 u,kR u h.b3,iL h.below h.h3 u,h.h1,h.h3,h.n12,h.n13,h.n23⟩
theorem AQ (y:Nd) (x:dV) (w:World):∃w3 q1 q2 q3,w3=((w.alloc (.cells (nc y).toArray 38)).alloc (.cells (oc x).toArray 32)).alloc (.cells (nc nd0).toArray 38)/\q1=w.heap.size/\q2=w.heap.size+1/\q3=w.heap.size+1+1/\fM w.heap.size q1 q2 q3 w w3 y nd0 x:=by
 refine ⟨_,_,_,_,rfl,rfl,rfl,rfl,?_⟩;have h1:=(Blk.new w 38 (nc y).toArray).alloc (.cells (oc x).toArray 32);have h2:=Blk.new2 w (.cells (nc y).toArray 38) 32 (oc x).toArray;have h3:=Blk.new2 (w.alloc (.cells (nc y).toArray 38)) (.cells (oc x).toArray 32) 38 (nc nd0).toArray;have e:(w.alloc (.cells (nc y).toArray 38)).heap.size=w.heap.size+1:=aZ _;rw [e] at h3;have b0:=(aC w.heap.size w).alloc (aB _) (.cells (nc y).toArray 38);have b1:=b0.alloc b0.size (.cells (oc x).toArray 32);exact ⟨h1.alloc _,h2.alloc _,h3,b1.alloc b1.size _,aB _,by omega,by omega,by omega,by omega⟩
theorem F8 (y:Nd) (x:dV) (A:Option Addr) (n c:Nat) (xs:List Nd) (w:World) (hx:lq w A n c xs) (hm:n<=100000):
  Calls prog 110 #[.slice A n c,nv y,ov x] w (dJ w (.tuple #[nv (fe xs x y).1,.bool (fe xs x y).2])):=by
 have hn:=hx.len;have qJ:=hx.max;have hle:=hx.le;obtain ⟨w3,q1,q2,q3,iI,hq1,iK,jR,hT⟩:=AQ y x w;have hx3:=hx.below hT.below;have HX:=dH hx3;have HT:=dH hT;have HW:=dH (show w3=((w.alloc (.cells #[.int .i64 y.id.1,.int .i64 y.id.2,.bool y.dir,.int .i64 y.par.1,.int .i64 y.par.2,.string (bs y.nm),.string (bs y.mf)] 38)).alloc (.cells #[.int .i64 x.st.1,.int .i64 x.st.2,.int .i64 x.seq,.int .i64 x.kind,.int .i64 x.node.1,.int .i64 x.node.2,.bool x.dir,.int .i64 x.par.1,.int .i64 x.par.2,.string (bs x.nm),.string (bs x.mf)] 32)).alloc (.cells #[.int .i64 0,.int .i64 0,.bool false,.int .i64 0,.int .i64 0,.string ⟨#[]⟩,.string ⟨#[]⟩] 38) from iI);have HQ:=dH (And.intro hq1 (And.intro iK jR));obtain ⟨c0,c1,c2,c3,c4,c5,c6⟩:=eU hT.b1;obtain ⟨f0,f1,f2,f3,f4,f5,f6⟩:=gC hT.b1;obtain ⟨o0,o1,o2,o3,o4,o5,o6,o7,o8,o9,rR⟩:=eO hT.b2;have n12:=hT.n12;have n13:=hT.n13;have n23:=hT.n23;have n21:=n12.symm;have n31:=n13.symm;have n32:=n23.symm;obtain ⟨r0,r1,r2,r3,r4,r5,r6⟩:=eU hT.b3;obtain ⟨g0,g1,g2,g3,g4,g5,g6⟩:=gC hT.b3;clear hT iI hq1 iK jR hx3;unfold nv ov fe;by_cases h4:x.kind=4
 ·have e2:(x.kind ==2)=false:=by rw [h4];rfl
  have e3:(x.kind ==3)=false:=by rw [h4];rfl
  have e4:(x.kind ==4)=true:=by rw [h4];rfl
  rw [if_neg (by rw [h4];decide),if_neg (by rw [h4];decide),if_pos h4];clear h4;go_enter func110,ntmps110;go_upto_region 1 with (fail);rw [<-HW.o,<-HQ.o.2.2,<-HQ.o.2.1,<-HQ.o.1];go_wp2_with fail;refine (C0 w3).mono ?_;rintro e w4 ⟨rfl,hb4⟩;have T4:=HT.o.after hb4 HT.o.size;clear c0 c1 c2 c3 c4 c5 c6 f0 f1 f2 f3 f4 f5 f6 o0 o1 o2 o3 o4 o5 o6 o7 o8 o9 rR r0 r1 r2 r3 r4 r5 r6 g0 g1 g2 g3 g4 g5 g6 hb4;obtain ⟨c0,c1,c2,c3,c4,c5,c6⟩:=eU T4.b1;obtain ⟨f0,f1,f2,f3,f4,f5,f6⟩:=gC T4.b1;obtain ⟨r0,r1,r2,r3,r4,r5,r6⟩:=eU T4.b3;obtain ⟨g0,g1,g2,g3,g4,g5,g6⟩:=gC T4.b3;have T5:=fM.par T4 (0,1);obtain ⟨z0,hz0⟩:=T5.last;obtain ⟨t0,t1,t2,t3,t4,t5,t6⟩:=eU z0;unfold jI at hz0 t0 t1 t2 t3 t4 t5 t6;have HZ:=dH hz0;clear T4 T5 z0 hz0;go_wp2_with fail;exact bodyPost_ret (v:=.tuple #[.agg #[.int .i64 y.id.1,.int .i64 y.id.2,.bool y.dir,.int .i64 0,.int .i64 1,.string (bs y.nm),.string (bs y.mf)],.bool true]) (by simp [results,results110,go_sem,t0,t1,t2,t3,t4,t5,t6]) rfl ⟨rfl,HZ.o⟩
 have e4:(x.kind ==4)=false:=by simpa using h4
 by_cases h3:x.kind=3
 ·have e2:(x.kind ==2)=false:=by rw [h3];rfl
  have e3:(x.kind ==3)=true:=by rw [h3];rfl
  rw [if_neg (by rw [h3];decide),if_pos h3];clear h3 h4;go_enter func110,ntmps110;go_upto_region 1 with (fail);rw [<-HW.o,<-HQ.o.2.2,<-HQ.o.2.1,<-HQ.o.1];go_upto_region 7 with (fail);have T5:=fM.mf HT.o x.mf;obtain ⟨w5,gL⟩:=dB (w3.setCell ⟨q1,6,none⟩ (.string (bs x.mf)));rw [<-gL] at T5;rw [<-gL];have iB:=dH T5;clear gL c0 c1 c2 c3 c4 c5 c6 f0 f1 f2 f3 f4 f5 f6 o0 o1 o2 o3 o4 o5 o6 o7 o8 o9 rR r0 r1 r2 r3 r4 r5 r6 g0 g1 g2 g3 g4 g5 g6;obtain ⟨c0,c1,c2,c3,c4,c5,c6⟩:=eU T5.b1;obtain ⟨r0,r1,r2,r3,r4,r5,r6⟩:=eU T5.b3;obtain ⟨g0,g1,g2,g3,g4,g5,g6⟩:=gC T5.b3;obtain ⟨z0,hz0⟩:=T5.last;obtain ⟨t0,t1,t2,t3,t4,t5,t6⟩:=eU z0;unfold jI at hz0 t0 t1 t2 t3 t4 t5 t6;have HZ:=dH hz0;clear T5 z0 hz0;go_region;go_wp2_with fail;exact bodyPost_ret (v:=.tuple #[.agg #[.int .i64 y.id.1,.int .i64 y.id.2,.bool y.dir,.int .i64 y.par.1,.int .i64 y.par.2,.string (bs y.nm),.string (bs x.mf)],.bool (!y.dir)]) (by simp [results,results110,go_sem,t0,t1,t2,t3,t4,t5,t6]) rfl ⟨rfl,HZ.o.drew⟩
 have e3:(x.kind ==3)=false:=by simpa using h3
 by_cases h2:x.kind=2
 ·have e2:(x.kind ==2)=true:=by rw [h2];rfl
  rw [if_pos h2];clear h2 h3 h4;go_enter func110,ntmps110;go_upto_region 1 with (fail);rw [<-HW.o,<-HQ.o.2.2,<-HQ.o.2.1,<-HQ.o.1];go_upto_region 3 with (fail);have T5:=fM.nm (fM.par HT.o x.par) x.nm;clear r0 r1 r2 r3 r4 r5 r6 g0 g1 g2 g3 g4 g5 g6;go_region;obtain ⟨w5,gL⟩:=dB ((((w3.setCell ⟨q1,3,none⟩ (.int .i64 x.par.1)).setCell ⟨q1,4,none⟩ (.int .i64 x.par.2)).setCell ⟨q1,5,none⟩ (.string (bs x.nm))).drew);rw [<-gL];have Dt:dG (lq w5 A n c xs):=by
   rw [gL];exact hx.below (T5.below.drew)
  have iB:dG (fM w.heap.size q1 q2 q3 w w5 ⟨y.id,y.dir,x.par,x.nm,y.mf⟩ nd0 x):=by rw [gL];exact T5.drew
  have tc:=dH (fun (w':World) (h:lq w' A n c xs)=>yU x.par A n c xs w' h);have VD:=dH (fun (w':World) (h:lq w' A n c xs)=>yV x.par A n c xs w' h (by omega));unfold sv at tc VD;clear T5 gL c0 c1 c2 c3 c4 c5 c6 f0 f1 f2 f3 f4 f5 f6 o0 o1 o2 o3 o4 o5 o6 o7 o8 o9 rR hx hm hn qJ hle;go_upto_region 4 with (fail);cases ht:fI x.par xs with
  |true=>
   rw [ht] at tc;have PI:=dH ht;clear ht;go_region_held3 (fun w'=>w'.cell? ⟨q1,0,none⟩=some (.int .i64 y.id.1)/\w'.cell? ⟨q1,1,none⟩=some (.int .i64 y.id.2)/\w'.cell? ⟨q1,2,none⟩=some (.bool y.dir)/\w'.cell? ⟨q1,3,none⟩=some (.int .i64 x.par.1)/\w'.cell? ⟨q1,4,none⟩=some (.int .i64 x.par.2)/\w'.cell? ⟨q1,5,none⟩=some (.string (bs x.nm))/\w'.cell? ⟨q1,6,none⟩=some (.string (bs y.mf))/\
     w'.cell? ⟨q2,4,none⟩=some (.int .i64 x.node.1)/\w'.cell? ⟨q2,5,none⟩=some (.int .i64 x.node.2)/\w'.cell? ⟨q2,7,none⟩=some (.int .i64 x.par.1)/\w'.cell? ⟨q2,8,none⟩=some (.int .i64 x.par.2))
    (first|with_reducible exact HT8.o.reads|exact (HT8.o.put ⟨y.id,y.dir,x.par,x.nm,y.mf⟩).reads|with_reducible exact sV.o.reads|with_reducible exact nI.o.reads|exact iB.o.reads)
    (first
     |(go_at_call 107;refine (tc.o _ (Dt.o.below (aC _ _).drew)).mono ?_;rintro e w6 ⟨rfl,iW⟩;have nI:=dH (iB.o.drew.after iW iB.o.size);have VE:=dH ((Dt.o.below (aC _ _).drew).below iW);clear iW)
     |(go_at_call 11;refine (VD.o _ VE.o).mono ?_;rintro e w7 ⟨v7,rfl,hO7,lZ⟩;obtain ⟨A7,c7,rfl,hS7⟩:=vJ.sts hO7;have sV:=dH (nI.o.after lZ nI.o.size);have Kf:=dH hS7;clear lZ hO7 hS7)
     |(go_at_call 164;refine (C3 x.node A7 _ c7 (i6 xs x.par) _ Kf.o).mono ?_;rintro e w8 ⟨rfl,qV⟩;have hT8:=sV.o.after qV sV.o.size;have HT8:=dH hT8;obtain ⟨r0,r1,r2,r3,r4,r5,r6⟩:=eU hT8.b3;obtain ⟨g0,g1,g2,g3,g4,g5,g6⟩:=gC hT8.b3;clear qV hT8))
   have hP:=HT8.o.put ⟨y.id,y.dir,x.par,x.nm,y.mf⟩;obtain ⟨t0,t1,t2,t3,t4,t5,t6⟩:=eU hP.b3;have hz0:=hP.below;unfold jI at hz0 t0 t1 t2 t3 t4 t5 t6;have HZ:=dH hz0;clear hP hz0 r0 r1 r2 r3 r4 r5 r6 g0 g1 g2 g3 g4 g5 g6;go_wp2_with fail;exact bodyPost_ret (v:=.tuple #[.agg #[.int .i64 y.id.1,.int .i64 y.id.2,.bool y.dir,.int .i64 x.par.1,.int .i64 x.par.2,.string (bs x.nm),.string (bs y.mf)],.bool (!decide (x.node∈i6 xs x.par))]) (by simp [results,results110,go_sem,t0,t1,t2,t3,t4,t5,t6]) rfl ⟨by rw [PI.o,Bool.true_and],HZ.o⟩
  |false=>
   rw [ht] at tc;have PI:=dH ht;clear ht VD;have Ya:=iB.o;obtain ⟨o0,o1,o2,o3,o4,o5,o6,o7,o8,o9,rR⟩:=eO Ya.b2;obtain ⟨c0,c1,c2,c3,c4,c5,c6⟩:=eU Ya.b1;clear Ya;refine wp_region_noPanic ?_;refine wp_region_held_drew (S:=fun w'=>w'.cell? ⟨q1,0,none⟩=some (.int .i64 y.id.1)/\w'.cell? ⟨q1,1,none⟩=some (.int .i64 y.id.2)/\w'.cell? ⟨q1,2,none⟩=some (.bool y.dir)/\w'.cell? ⟨q1,3,none⟩=some (.int .i64 x.par.1)/\w'.cell? ⟨q1,4,none⟩=some (.int .i64 x.par.2)/\w'.cell? ⟨q1,5,none⟩=some (.string (bs x.nm))/\w'.cell? ⟨q1,6,none⟩=some (.string (bs y.mf))/\
     w'.cell? ⟨q2,4,none⟩=some (.int .i64 x.node.1)/\w'.cell? ⟨q2,5,none⟩=some (.int .i64 x.node.2)/\w'.cell? ⟨q2,7,none⟩=some (.int .i64 x.par.1)/\w'.cell? ⟨q2,8,none⟩=some (.int .i64 x.par.2)) (by kernel_rfl) iB.o.reads (fun dW=>?_)
   refine wpAnyH_take (i:=1) (v:=?_) rfl (by kernel_rfl) (by kernel_rfl) (by kernel_rfl) (fun _ _ _ h=>h) (Or.inl ⟨by rfl,?_⟩) dW ?_
   rotate_left
   ·(intro w gF;(try dsimp only at gF);go_simp;first|done|with_reducible rfl)
   (try simp only [Act.put,aH,aD,aF])
   refine wpAnyH_take (i:=2) (v:=?_) rfl (by kernel_rfl) (by kernel_rfl) (by kernel_rfl) (fun _ _ _ h=>h) (Or.inl ⟨by rfl,?_⟩) dW ?_
   rotate_left
   ·(intro w gF;(try dsimp only at gF);go_simp;first|done|with_reducible rfl)
   (try simp only [Act.put,aH,aD,aF])
   refine wpAnyH_take (i:=3) (v:=?_) rfl (by kernel_rfl) (by kernel_rfl) (by kernel_rfl) (fun _ _ _ h=>h) (Or.inl ⟨by rfl,?_⟩) dW ?_
   rotate_left
   ·(intro w gF;(try dsimp only at gF);go_simp;first|done|with_reducible rfl)
   (try simp only [Act.put,aH,aD,aF])
   refine wpAnyH_take (i:=0) (v:=?_) rfl (by kernel_rfl) (by kernel_rfl) (by kernel_rfl) (fun _ _ _ h=>h) (Or.inl ⟨by rfl,?_⟩) dW ?_
   rotate_left
   ·(intro w gF;(try dsimp only at gF);go_simp;first|done|with_reducible rfl)
   (try simp only [Act.put,aH,aD,aF])
   refine wpAnyH_ready (rs:=[4]) (by kernel_rfl) (by simp) ?_;refine AllReadyH.cons rfl (fun K hK=>?_) AllReadyH.nil;go_simp;refine (tc.o _ (Dt.o.below (aC _ _).drew)).mono ?_;rintro e w6 ⟨rfl,iW⟩;have PL:=iB.o.drew.after iW iB.o.size;have nI:=dH PL;obtain ⟨r0,r1,r2,r3,r4,r5,r6⟩:=eU PL.b3;obtain ⟨g0,g1,g2,g3,g4,g5,g6⟩:=gC PL.b3;clear iW PL;refine hK.out _ _ nI.o.reads (fun dW=>?_);clear hK K
   (try simp only [Act.put,aH,aD,aF])
   refine wpAnyH_take (i:=5) (v:=?_) rfl (by kernel_rfl) (by kernel_rfl) (by kernel_rfl) (fun _ _ _ h=>h) (Or.inl ⟨by rfl,?_⟩) dW ?_
   rotate_left
   ·(intro w gF;(try dsimp only at gF);go_simp;first|done|with_reducible rfl)
   (try simp only [Act.put,aH,aD,aF])
   refine wpAnyH_take (i:=6) (v:=undef) rfl (by kernel_rfl) (by kernel_rfl) (by kernel_rfl) (fun _ _ _ h=>h) (Or.inr ⟨by kernel_rfl,rfl⟩) dW ?_
   (try simp only [Act.put,aH,aD,aF])
   refine wpAnyH_take (i:=7) (v:=undef) rfl (by kernel_rfl) (by kernel_rfl) (by kernel_rfl) (fun _ _ _ h=>h) (Or.inr ⟨by kernel_rfl,rfl⟩) dW ?_
   (try simp only [Act.put,aH,aD,aF])
   refine wpAnyH_take (i:=8) (v:=undef) rfl (by kernel_rfl) (by kernel_rfl) (by kernel_rfl) (fun _ _ _ h=>h) (Or.inr ⟨by kernel_rfl,rfl⟩) dW ?_
   (try simp only [Act.put,aH,aD,aF])
   refine wpAnyH_take (i:=9) (v:=undef) rfl (by kernel_rfl) (by kernel_rfl) (by kernel_rfl) (fun _ _ _ h=>h) (Or.inr ⟨by kernel_rfl,rfl⟩) dW ?_
   (try simp only [Act.put,aH,aD,aF])
   refine wpAnyH_take (i:=10) (v:=undef) rfl (by kernel_rfl) (by kernel_rfl) (by kernel_rfl) (fun _ _ _ h=>h) (Or.inr ⟨by kernel_rfl,rfl⟩) dW ?_
   (try simp only [Act.put,aH,aD,aF])
   refine wpAnyH_take (i:=11) (v:=undef) rfl (by kernel_rfl) (by kernel_rfl) (by kernel_rfl) (fun _ _ _ h=>h) (Or.inr ⟨by kernel_rfl,rfl⟩) dW ?_
   (try simp only [Act.put,aH,aD,aF])
   refine wpAnyH_take (i:=12) (v:=undef) rfl (by kernel_rfl) (by kernel_rfl) (by kernel_rfl) (fun _ _ _ h=>h) (Or.inr ⟨by kernel_rfl,rfl⟩) dW ?_
   (try simp only [Act.put,aH,aD,aF])
   refine wpAnyH_take (i:=13) (v:=undef) rfl (by kernel_rfl) (by kernel_rfl) (by kernel_rfl) (fun _ _ _ h=>h) (Or.inr ⟨by kernel_rfl,rfl⟩) dW ?_
   (try simp only [Act.put,aH,aD,aF])
   refine wpAnyH_take (i:=14) (v:=?_) rfl (by kernel_rfl) (by kernel_rfl) (by kernel_rfl) (fun _ _ _ h=>h) (Or.inl ⟨by rfl,?_⟩) dW ?_
   rotate_left
   ·(intro w gF;(try dsimp only at gF);go_simp;first|done|with_reducible rfl)
   (try simp only [Act.put,aH,aD,aF])
   refine wpAnyH_ready (rs:=[15]) (by kernel_rfl) (by simp) ?_;refine AllReadyH.cons rfl (fun K hK=>?_) AllReadyH.nil;go_simp;refine hK.out _ _ (nI.o.put ⟨y.id,y.dir,x.par,x.nm,y.mf⟩).reads (fun dW=>?_);clear hK K
   (try simp only [Act.put,aH,aD,aF])
   refine wpAnyH_take (i:=16) (v:=?_) rfl (by kernel_rfl) (by kernel_rfl) (by kernel_rfl) (fun _ _ _ h=>h) (Or.inl ⟨by rfl,?_⟩) dW ?_
   rotate_left
   ·(intro w gF;(try dsimp only at gF);go_simp;first|done|with_reducible rfl)
   (try simp only [Act.put,aH,aD,aF])
   refine wpAnyH_done (by kernel_rfl) ?_ _;refine NoPanic.normal ?_;have hP:=nI.o.put ⟨y.id,y.dir,x.par,x.nm,y.mf⟩;obtain ⟨t0,t1,t2,t3,t4,t5,t6⟩:=eU hP.b3;have hz0:=hP.below;unfold jI at hz0 t0 t1 t2 t3 t4 t5 t6;have HZ:=dH hz0;clear hP hz0 r0 r1 r2 r3 r4 r5 r6 g0 g1 g2 g3 g4 g5 g6;go_wp2_with fail;exact bodyPost_ret (v:=.tuple #[.agg #[.int .i64 y.id.1,.int .i64 y.id.2,.bool y.dir,.int .i64 x.par.1,.int .i64 x.par.2,.string (bs x.nm),.string (bs y.mf)],.bool false]) (by simp [results,results110,go_sem,t0,t1,t2,t3,t4,t5,t6]) rfl ⟨by rw [PI.o,Bool.false_and],HZ.o⟩
 ·have e2:(x.kind ==2)=false:=by simpa using h2
  rw [if_neg h2,if_neg h3,if_neg h4];clear h2 h3 h4;obtain ⟨z0,hz0⟩:=HT.o.last;obtain ⟨t0,t1,t2,t3,t4,t5,t6⟩:=eU z0;unfold jI at hz0 t0 t1 t2 t3 t4 t5 t6;have HZ:=dH hz0;clear z0 hz0;go_enter func110,ntmps110;go_upto_region 1 with (fail);rw [<-HW.o,<-HQ.o.2.2,<-HQ.o.2.1,<-HQ.o.1];go_wp2_with fail;exact bodyPost_ret (v:=.tuple #[.agg #[.int .i64 y.id.1,.int .i64 y.id.2,.bool y.dir,.int .i64 y.par.1,.int .i64 y.par.2,.string (bs y.nm),.string (bs y.mf)],.bool false]) (by simp [results,results110,go_sem,t0,t1,t2,t3,t4,t5,t6]) rfl ⟨rfl,HZ.o⟩
end
end Go.Proofs.YtgdaahffmcfhpaaGreatDoor
