/- Lemmas on the way: VU VV. -/
import Derived.Test.YtgdaahffmcfhpaaGreatDoorO25
set_option maxRecDepth 100000
set_option maxHeartbeats 8000000
namespace Go.Proofs.YtgdaahffmcfhpaaGreatDoor
open aA
open Tryz
section
open Go.RowKit
attribute [local go_sem] dR dO dS dP
structure FR (B q1:Nat) (w0 w:World) (x:dX) (A:Option Addr) (n c:Nat) (xs:List Nd):Prop where
 b1:Blk w q1 32 (oc x).toArray
 nds:lu w A n c xs
 below:Below B w0 w
 h1:B<=q1
variable {B q1 n B0:Nat} {w w0 w':World} {x:dX} {A:Option Addr} {xs ys:List Nd}
theorem FR.size {c:Nat} (h:FR B q1 w0 w x A n c xs):B<=w.heap.size:=ag (Nat.lt_of_le_of_lt h.h1 h.b1.lt)
theorem FR.after {c:Nat} (h:FR B q1 w0 w x A n c xs) (hb:Below w w w'):FR B q1 w0 w' x A n c xs:=
 ⟨h.b1.below hb h.b1.lt,h.nds.below hb,h.below.trans (hb.mono h.size),h.h1⟩
theorem FR.drew {B q1:Nat} {w0 w:World} {x:dX} {A:Option Addr} {n c:Nat} {xs:List Nd} (h:FR B q1 w0 w x A n c xs):FR B q1 w0 w.drew x A n c xs:=h.after (aC _ _).drew
theorem FR.alloc {B q1:Nat} {w0 w:World} {x:dX} {A:Option Addr} {n c:Nat} {xs:List Nd} (h:FR B q1 w0 w x A n c xs) (o:Obj):FR B q1 w0 (w.alloc o) x A n c xs:=h.after ((aC _ _).alloc (aB _) o)
theorem FR.start (w:World) (x:dX) (A:Option Addr) (n c:Nat) (xs:List Nd) (hx:lu w A n c xs):FR w w w (w.alloc (.cells (oc x).toArray 32)) x A n c xs:=
 ⟨Blk.new _ _ _,hx.below ((aC _ _).alloc (aB _) _),(aC _ _).alloc (aB _) _,aB _⟩
def lT (w:World) (ys:List Nd) (e:Ending) (w':World):Prop:=∃A c,e=.returned (.slice A ys.length c)/\lu w' A ys.length c ys/\Below w w w'
theorem lT.same {c:Nat} (h:FR w q1 w w' x A n c xs):lT w xs (.returned (Qq A n c)) w':=by
 have:=h.nds.len;subst this;exact ⟨A,c,rfl,h.nds,h.below⟩
theorem lT.own {v:Value} (h:Own w' B v ys) (hs:Short ys) (hb:Below w w w'):lT w ys (.returned v) w':=by
 obtain ⟨A,c,rfl,hn⟩:=h.nds hs;exact ⟨A,c,rfl,hn,hb⟩
theorem pH (h:Below B0 w0 w) (hB:B0<=B) (x:Nd):Below B0 w0 (((((((w.setCell B x.id.1).setCell (Qc B 1) x.id.2).setCell (Qc B 2) x.dir).setCell (Qc B 3) x.par.1).setCell (Qc B 4) x.par.2).setCell (Qc B 5) x.nm).setCell (Qc B 6) x.mf):=ij h hB x
theorem LR {y:Nd} (x:Nd) (h:Blk w B 38 (nc y).toArray):Blk (((((((w.setCell B x.id.1).setCell (Qc B 1) x.id.2).setCell (Qc B 2) x.dir).setCell (Qc B 3) x.par.1).setCell (Qc B 4) x.par.2).setCell (Qc B 5) x.nm).setCell (Qc B 6) x.mf) B 38 (nc x).toArray:=jw x h
theorem P9 (x:dX) (A:Option Addr) (n c:Nat) (xs:List Nd) (w:World) (hx:lu w A n c xs) (hop:Ir x) (hm:n<=100000):
  Calls prog 63 #[Qq A n c,ov x] w (lT w (uI xs x)):=by
 have hn:=hx.len;have lg:=hx.max;have hle:=hx.le;have hsh:=hx.short;have UL:=FR.start w x A n c xs hx;obtain ⟨w1,hw1⟩:=dG (w.alloc (.cells (oc x).toArray 32));obtain ⟨q1,hq1⟩:=dG w.heap.size;have UL:FR w q1 w w1 x A n c xs:=by rw [hq1,hw1];exact UL
 have HP:=dL (zx x.node A n c xs w1 UL.nds);have HW:=dL (dN (x:=x) hw1);have HQ:=dL hq1;have VU:=dL UL;have yQ:=dL hsh;have VY:=dL hop;obtain ⟨o0,o1,o2,o3,o4,o5,o6,o7,o8,o9,sY⟩:=dx UL.b1;clear UL hw1 hq1 hsh hop;unfold ov sv at*;obtain ⟨ys,hys⟩:=dG (uI xs x);rw [<-hys];rcases gZ (eZ x.node) xs with ⟨k,hk,iU,hp⟩| ⟨iU,hall⟩
 ·rw [iU] at HP
  rw [Bg hk iU] at hys;have hk0:decide ((k:Int) < 0)=false:=decide_eq_false (by omega);have hkn:(k:Int) < (n:Int):=by omega
  by_cases h1:x.kind=1
  ·have e1:(x.kind ==1)=true:=by rw [h1];rfl
   rw [if_pos h1] at hys;have HY:=dL hys;clear hys h1 iU hp;go_enter func63,ntmps63;go_upto_region 1 with (fail);rw [<-HW.o,<-HQ.o];go_wp2_with fail;refine HP.o.mono ?_;rintro e w2 ⟨rfl,dY⟩;have zf:=dL (VU.o.after dY);obtain ⟨o0,o1,o2,o3,o4,o5,o6,o7,o8,o9,sY⟩:=dx zf.o.b1;clear dY;go_wp2_with fail;go_ret;rw [HY.o];exact lT.same zf.o
  ·have e1:(x.kind ==1)=false:=by simpa using h1
   rw [if_neg h1] at hys;have HY:=dL hys;clear hys h1 iU hp;go_enter func63,ntmps63;go_upto_region 1 with (fail);rw [<-HW.o,<-HQ.o];go_wp2_with fail;refine HP.o.mono ?_;rintro e w2 ⟨rfl,dY⟩;have zf:=dL (VU.o.after dY);clear o0 o1 o2 o3 o4 o5 o6 o7 o8 o9 sY;obtain ⟨o0,o1,o2,o3,o4,o5,o6,o7,o8,o9,sY⟩:=dx zf.o.b1;clear dY;obtain ⟨b,off,rfl,jW,c0,c1,c2,c3,c4,c5,c6,m1,m2⟩:=lu.at_ zf.o.nds hk;have acu:=HY.o;generalize hyk:xs[k]=y at*;have HYk:=dL hyk;have HT:=dL (λ(w':World) (h:lu w' (some ⟨b,off,none⟩) n c xs)=>Fw y x (some ⟨b,off,none⟩) n c xs w' h hm);have HTs:=dL (uP (xs:=xs) VY.o (show y.nm.length<=9223372036854775807/\y.mf.length<=9223372036854775807 from ⟨m1,m2⟩));generalize (jb xs x y).1=z at*;generalize (jb xs x y).2=ok at*;have MB:=dL acu;have hS:∀w',Below w2 w2 w'->w'.cell? ⟨b,off+k*7,none⟩=y.id.1/\w'.cell? ⟨b,off+k*7+1,none⟩=y.id.2/\w'.cell? ⟨b,off+k*7+2,none⟩=y.dir/\
     w'.cell? ⟨b,off+k*7+3,none⟩=y.par.1/\w'.cell? ⟨b,off+k*7+4,none⟩=y.par.2/\w'.cell? ⟨b,off+k*7+5,none⟩=y.nm/\w'.cell? ⟨b,off+k*7+6,none⟩=y.mf/\
     w'.cell? q1=x.st.1/\w'.cell? (Qc q1 1)=x.st.2/\w'.cell? (Qc q1 2)=x.seq/\w'.cell? (Qc q1 3)=x.kind/\w'.cell? (Qc q1 4)=x.node.1/\w'.cell? (Qc q1 5)=x.node.2/\w'.cell? (Qc q1 6)=x.dir/\w'.cell? (Qc q1 7)=x.par.1/\w'.cell? (Qc q1 8)=x.par.2/\w'.cell? (Qc q1 9)=x.nm/\w'.cell? (Qc q1 10)=x.mf:=λw' hb=>by
    have hq:=zf.o.b1.lt;exact ⟨dU hb jW c0,dU hb jW c1,dU hb jW c2,dU hb jW c3,dU hb jW c4,dU hb jW c5,dU hb jW c6,dU hb hq o0,dU hb hq o1,dU hb hq o2,dU hb hq o3,dU hb hq o4,dU hb hq o5,dU hb hq o6,dU hb hq o7,dU hb hq o8,dU hb hq o9,dU hb hq sY⟩
   have HS:=dL hS;clear hS acu hyk m1 m2 HY;unfold nv ov at HT;go_upto_region 9 with (fail);clear c0 c1 c2 c3 c4 c5 c6 o0 o1 o2 o3 o4 o5 o6 o7 o8 o9 sY;go_region_held3 (λw'=>w'.cell? ⟨b,off+k*7,none⟩=y.id.1/\w'.cell? ⟨b,off+k*7+1,none⟩=y.id.2/\w'.cell? ⟨b,off+k*7+2,none⟩=y.dir/\
     w'.cell? ⟨b,off+k*7+3,none⟩=y.par.1/\w'.cell? ⟨b,off+k*7+4,none⟩=y.par.2/\w'.cell? ⟨b,off+k*7+5,none⟩=y.nm/\w'.cell? ⟨b,off+k*7+6,none⟩=y.mf/\
     w'.cell? q1=x.st.1/\w'.cell? (Qc q1 1)=x.st.2/\w'.cell? (Qc q1 2)=x.seq/\w'.cell? (Qc q1 3)=x.kind/\w'.cell? (Qc q1 4)=x.node.1/\w'.cell? (Qc q1 5)=x.node.2/\w'.cell? (Qc q1 6)=x.dir/\w'.cell? (Qc q1 7)=x.par.1/\w'.cell? (Qc q1 8)=x.par.2/\w'.cell? (Qc q1 9)=x.nm/\w'.cell? (Qc q1 10)=x.mf)
    (with_reducible first|exact HS.o _ MC.o|exact HS.o _ (MC.o.alloc MC.o.size _)|exact HS.o _ (pH MC.o (aB _) z)|exact HS.o _ (pH (MC.o.alloc MC.o.size _) MC.o.size z)|exact HS.o _ (aC _ _).drew|exact HS.o _ ((aC _ _).alloc (aB _) _).drew|exact HS.o _ ((aC _ _).alloc (aB _) _))
    (first
     |(go_at_call 110;(with_reducible refine (HT.o _ (zf.o.drew.nds)).mono ?_);rintro e w3 ⟨rfl,dn⟩;have MC:=dL ((aC w2 w2).drew.trans dn);clear dn)
     |(go_at_call 110;(with_reducible refine (HT.o _ ((zf.o.alloc (.cells #[qn,qn,false,qn,qn,yj,yj] 38)).drew.nds)).mono ?_);rintro e w3 ⟨rfl,dn⟩;have MC:=dL (((aC w2 w2).alloc (aB _) (.cells (nc nd0).toArray 38)).drew.trans (dn.mono (by simp)));have hZ:=Blk.below (Blk.drew (Blk.new w2 38 (nc nd0).toArray)) dn (by simp);obtain ⟨r0,r1,r2,r3,r4,r5,r6⟩:=eW hZ;obtain ⟨g0,g1,g2,g3,g4,g5,g6⟩:=gP hZ;have HZ:=dL hZ;clear hZ dn))
   ·have kP:=MC.o.alloc MC.o.size (.cells (nc z).toArray 38)
    have II:=Blk.new w3 38 (nc z).toArray;obtain ⟨w4,rE⟩:=dG (w3.alloc (.cells #[z.id.1,z.id.2,z.dir,z.par.1,z.par.2,z.nm,z.mf] 38));obtain ⟨q2,ig⟩:=dG w3.heap.size;have kP:Below w2 w2 w4:=by rw [rE];exact kP
    have II:Blk w4 q2 38 (nc z).toArray:=by rw [rE,ig];exact II
    rw [<-rE,<-ig];have fI:=dL kP;have IF:=dL II;clear rE ig kP II MC;cases ok with
    |false=>
     go_wp2_with fail;go_ret;have Xy:dK (ys=xs):=by show ys=_;rw [MB.o,if_neg (by decide)]
     rw [Xy.o];exact lT.same (zf.o.after fI.o)
    |true=>
     have Xy:dK (ys=xs.set k z):=by show ys=_;rw [MB.o,if_pos rfl]
     have sP:=dL (zf.o.after fI.o);clear MB;go_wp2_with fail;refine (j9 (some ⟨b,off,none⟩) n c xs w4 sP.o.nds (by omega)).mono ?_;rintro e w5 ⟨v5,rfl,wH,ef⟩;unfold Own at wH;rw [hn] at wH;have hZ5:=Blk.below IF.o ef IF.o.lt;obtain ⟨g,cap,rfl,hg,hlt,hnc,hcm,hx5,Vo⟩:=dQ.form wH (by omega);have sN:=λj (hj:j < 7)=>hx5 (k*7+j) ((nc xs[k])[j]'hj) (by rw [qd xs k j hk hj,bh (by exact hj)])
     have FC:=λj (hj:j < 7)=>Vo (k*7+j) (by omega)
     have d0:=sN 0 (by decide);have d1:=sN 1 (by decide);have d2:=sN 2 (by decide);have d3:=sN 3 (by decide);have d4:=sN 4 (by decide);have d5:=sN 5 (by decide);have d6:=sN 6 (by decide);have f0:=FC 0 (by decide);have f1:=FC 1 (by decide);have f2:=FC 2 (by decide);have f3:=FC 3 (by decide);have f4:=FC 4 (by decide);have f5:=FC 5 (by decide);have f6:=FC 6 (by decide);simp only [bZ] at d0 f0;obtain ⟨c0,c1,c2,c3,c4,c5,c6⟩:=eW hZ5;have dy:=Own.set_ hn wH k (by omega) z;have IK:Below w w (nU w5 g (k*7) z):=eY (sP.o.below.trans (ef.mono sP.o.size)) dy.2 (aI sP.o.size hg) (aI sP.o.size ef.size);have HF:dK (lT w ys (.returned (Qs g n cap)) (nU w5 g (k*7) z)):=by
      rw [Xy.o];have h1:=dy.1;have hl:(xs.set k z).length=n:=by rw [cT,hn]
      refine lT.own (B:=w4.heap.size) (ys:=xs.set k z) ?_ (tL yQ.o HTs.o k) IK;unfold Own;rw [hl];exact h1
     unfold nU at HF;have hne:g≠q2:=by have:=IF.o.lt;omega
     have afg:q2≠g:=hne.symm;clear dy IK sN FC hx5 Vo wH hZ5 ef hg hlt hnc hcm;go_wp2_with fail;go_ret;exact HF.o
   ·have kP:=pH MC.o (aB _) z
    have II:=LR z HZ.o;obtain ⟨w4,rE⟩:=dG ((((((((w3.setCell w2 z.id.1).setCell (Qc w2 1) z.id.2).setCell (Qc w2 2) z.dir).setCell (Qc w2 3) z.par.1).setCell (Qc w2 4) z.par.2).setCell (Qc w2 5) z.nm).setCell (Qc w2 6) z.mf));obtain ⟨q2,ig⟩:=dG w2.heap.size;rw [<-rE] at kP II;rw [<-ig] at II;rw [<-rE,<-ig];clear r0 r1 r2 r3 r4 r5 r6 g0 g1 g2 g3 g4 g5 g6 HZ;have fI:=dL kP;have IF:=dL II;clear rE ig kP II MC;cases ok with
    |false=>
     go_wp2_with fail;go_ret;have Xy:dK (ys=xs):=by show ys=_;rw [MB.o,if_neg (by decide)]
     rw [Xy.o];exact lT.same (zf.o.after fI.o)
    |true=>
     have Xy:dK (ys=xs.set k z):=by show ys=_;rw [MB.o,if_pos rfl]
     have sP:=dL (zf.o.after fI.o);clear MB;go_wp2_with fail;refine (j9 (some ⟨b,off,none⟩) n c xs w4 sP.o.nds (by omega)).mono ?_;rintro e w5 ⟨v5,rfl,wH,ef⟩;unfold Own at wH;rw [hn] at wH;have hZ5:=Blk.below IF.o ef IF.o.lt;obtain ⟨g,cap,rfl,hg,hlt,hnc,hcm,hx5,Vo⟩:=dQ.form wH (by omega);have sN:=λj (hj:j < 7)=>hx5 (k*7+j) ((nc xs[k])[j]'hj) (by rw [qd xs k j hk hj,bh (by exact hj)])
     have FC:=λj (hj:j < 7)=>Vo (k*7+j) (by omega)
     have d0:=sN 0 (by decide);have d1:=sN 1 (by decide);have d2:=sN 2 (by decide);have d3:=sN 3 (by decide);have d4:=sN 4 (by decide);have d5:=sN 5 (by decide);have d6:=sN 6 (by decide);have f0:=FC 0 (by decide);have f1:=FC 1 (by decide);have f2:=FC 2 (by decide);have f3:=FC 3 (by decide);have f4:=FC 4 (by decide);have f5:=FC 5 (by decide);have f6:=FC 6 (by decide);simp only [bZ] at d0 f0;obtain ⟨c0,c1,c2,c3,c4,c5,c6⟩:=eW hZ5;have dy:=Own.set_ hn wH k (by omega) z;have IK:Below w w (nU w5 g (k*7) z):=eY (sP.o.below.trans (ef.mono sP.o.size)) dy.2 (aI sP.o.size hg) (aI sP.o.size ef.size);have HF:dK (lT w ys (.returned (Qs g n cap)) (nU w5 g (k*7) z)):=by
      rw [Xy.o];have h1:=dy.1;have hl:(xs.set k z).length=n:=by rw [cT,hn]
      refine lT.own (B:=w4.heap.size) (ys:=xs.set k z) ?_ (tL yQ.o HTs.o k) IK;unfold Own;rw [hl];exact h1
     unfold nU at HF;have hne:g≠q2:=by have:=IF.o.lt;omega
     have afg:q2≠g:=hne.symm;clear dy IK sN FC hx5 Vo wH hZ5 ef hg hlt hnc hcm;go_wp2_with fail;go_ret;exact HF.o
 ·rw [iU] at HP
  rw [Bh iU] at hys;have hk0:decide ((-1:Int) < 0)=true:=by decide
  by_cases h1:x.kind=1
  ·have e1:(x.kind ==1)=true:=by rw [h1];rfl
   rw [if_pos h1] at hys;have HY:=dL hys;clear hys h1 iU hall;go_enter func63,ntmps63;go_upto_region 1 with (fail);rw [<-HW.o,<-HQ.o];go_wp2_with fail;refine HP.o.mono ?_;rintro e w2 ⟨rfl,dY⟩;have zf:=dL (VU.o.after dY);clear o0 o1 o2 o3 o4 o5 o6 o7 o8 o9 sY;obtain ⟨o0,o1,o2,o3,o4,o5,o6,o7,o8,o9,sY⟩:=dx zf.o.b1;clear dY;go_upto_region 4 with (fail);obtain ⟨y0,hy0⟩:∃y0:Nd,y0= ⟨x.node,x.dir,x.par,x.nm,x.mf⟩:=⟨_,rfl⟩;have hD3:=zf.o.alloc (.cells (nc y0).toArray 38);have vO:=Blk.new w2 38 (nc y0).toArray;have hsz:=zf.o.size;obtain ⟨w3,jD⟩:=dG (w2.alloc (.cells (nc y0).toArray 38));obtain ⟨q2,ig⟩:=dG w2.heap.size;rw [<-jD,<-ig] at vO;rw [<-jD] at hD3;rw [<-ig] at hsz;have acv:w3=w2.alloc (.cells #[x.node.1,x.node.2,x.dir,x.par.1,x.par.2,x.nm,x.mf] 38):=by rw [jD,hy0];rfl
   rw [<-acv,<-ig];have HD3:=dL hD3;have eC:=dL vO;have zV:=dL hsz;have z7:=dL hy0;have ug:=dL (zy x.par A n c xs w3 hD3.nds);unfold sv at ug;obtain ⟨c0,c1,c2,c3,c4,c5,c6⟩:=eW (hy0 ▸ vO);clear hD3 vO hsz jD acv ig o0 o1 o2 o3 o4 o5 o6 o7 o8 o9 sY;clear hy0;have hoy:y0.nm.length<=9223372036854775807/\y0.mf.length<=9223372036854775807:=by rw [z7.o];exact VY.o
   have HOy:=dL hoy;clear hoy;cases ht:gM x.par xs with
   |true=>
    rw [ht] at ug;have HYt:dK (ys=gI xs y0):=by show ys=_;rw [HY.o,if_pos ht,z7.o]
    clear ht HY;go_wp2_with fail;refine ug.o.mono ?_;rintro e w4 ⟨rfl,hb4⟩;have kP:=Blk.below eC.o hb4 eC.o.lt;have sP:=dL (HD3.o.after hb4);clear hb4 c0 c1 c2 c3 c4 c5 c6;obtain ⟨c0,c1,c2,c3,c4,c5,c6⟩:=eW kP;clear kP;have HG:=dL (AB y0 A n c xs w4 sP.o.nds hm);unfold nv at HG;go_wp2_with fail;refine HG.o.mono ?_;rintro e w5 ⟨v5,rfl,wH,ef⟩;have HF:dK (lT w ys (.returned v5) w5):=by
     rw [HYt.o];exact lT.own wH (ou yQ.o HOy.o) (sP.o.below.trans (ef.mono sP.o.size))
    clear wH ef;go_wp2_with fail;go_ret;exact HF.o
   |false=>
    rw [ht] at ug;have HYt:dK (ys=gI xs { y0 with par:=(0,1) }):=by show ys=_;rw [HY.o,if_neg (by rw [ht];decide),z7.o]
    clear ht HY;go_wp2_with fail;refine ug.o.mono ?_;rintro e w4 ⟨rfl,hb4⟩;have fI:=dL (Blk.below eC.o hb4 eC.o.lt);have sP:=dL (HD3.o.after hb4);clear hb4 c0 c1 c2 c3 c4 c5 c6;go_wp2_with fail;refine (DC w4).mono ?_;rintro e w6 ⟨rfl,jr⟩;have Ma:=Blk.below fI.o jr fI.o.lt;have hD6:=sP.o.after jr;have jt:=dL Ma;have zj:=dL hD6;obtain ⟨c0,c1,c2,c3,c4,c5,c6⟩:=eW Ma;obtain ⟨f0,f1,f2,f3,f4,f5,f6⟩:=gP Ma;clear jr Ma hD6;go_upto_region 6 with (fail);have VM:Blk ((w6.setCell (Qc q2 3) qn).setCell (Qc q2 4) yh) q2 38 (nc { y0 with par:=(0,1) }).toArray:=by
     have:=Blk.set_ (Blk.set_ jt.o 3 (.int .i64 0)) 4 (.int .i64 1);simpa [nc] using this
    have lq:Below w w ((w6.setCell (Qc q2 3) qn).setCell (Qc q2 4) yh):=
     (zj.o.below.setCell (p:=Qc q2 3) zV.o _).setCell (p:=Qc q2 4) zV.o _
    have hs7:w.heap.size<=((w6.setCell (Qc q2 3) qn).setCell (Qc q2 4) yh).heap.size:=by simpa [World.setCell] using zj.o.size
    obtain ⟨w7,mQ⟩:=dG ((w6.setCell (Qc q2 3) qn).setCell (Qc q2 4) yh);rw [<-mQ] at VM lq hs7;rw [<-mQ];have HX7:=dL (hx.below lq);have lZ:=dL lq;have MT:=dL hs7;clear mQ lq hs7 c0 c1 c2 c3 c4 c5 c6 f0 f1 f2 f3 f4 f5 f6 hx;obtain ⟨c0,c1,c2,c3,c4,c5,c6⟩:=eW VM;clear VM;have HG:=dL (AB { y0 with par:=(0,1) } A n c xs w7 HX7.o hm);unfold nv at HG;go_wp2_with fail;refine HG.o.mono ?_;rintro e w5 ⟨v5,rfl,wH,ef⟩;have HF:dK (lT w ys (.returned v5) w5):=by
     rw [HYt.o];exact lT.own wH (ou yQ.o HOy.o) (lZ.o.trans (ef.mono MT.o))
    clear wH ef;go_wp2_with fail;go_ret;exact HF.o
  ·have e1:(x.kind ==1)=false:=by simpa using h1
   rw [if_neg h1] at hys;have HY:=dL hys;clear hys h1 iU hall;go_enter func63,ntmps63;go_upto_region 1 with (fail);rw [<-HW.o,<-HQ.o];go_wp2_with fail;refine HP.o.mono ?_;rintro e w2 ⟨rfl,dY⟩;have zf:=dL (VU.o.after dY);obtain ⟨o0,o1,o2,o3,o4,o5,o6,o7,o8,o9,sY⟩:=dx zf.o.b1;clear dY;go_wp2_with fail;go_ret;rw [HY.o];exact lT.same zf.o
theorem Gn (l:List dX) (k:Nat) (hk:k < l.length):fL (l.take (k+1))=uI (fL (l.take k)) l[k]:=by
 unfold fL;rw [ay hk,List.foldl_append];rfl
theorem LU (l:List dX):(fL l).length<=l.length:=by
 unfold fL;have:∀(l:List dX) (xs:List Nd),(l.foldl uI xs).length<=xs.length+l.length:=by
  intro l;induction l with
  |nil=>intro xs;simp
  |cons x l ih=>intro xs;simp only [List.foldl_cons,aY];have:=ih (uI xs x);have:=SN xs x;omega
 simpa using this l []
theorem PA (A:Option Addr) (n c:Nat) (l:List dX) (w:World) (hl:mR w A n c l) (hm:n<=1000):
  Calls prog 20 #[Qq A n c] w (lT w (fL l)):=by
 have hn:=hl.len;have lg:=hl.max;have hle:=hl.le;have HL:=dL hl;clear hl;go_enter func20,ntmps20;go_wp2_with fail;go_loopw [3,8] (λu i wr=>∃k:Nat,k<=n/\i=.int .i64 k/\(∃A2 n2 c2,u=.slice A2 n2 c2/\lu wr A2 n2 c2 (fL (l.take k)))/\Below w w wr) (λ_ i _=>n - (intOf i).toNat)
 case atStart=>exact ⟨0,by omega,rfl,⟨none,0,0,rfl,Sl.nil_⟩,aC _ _⟩
 case round=>
  obtain ⟨k,hk,rfl,⟨A2,n2,c2,rfl,hN⟩,hb⟩:=hrel;rcases aD k n with hlt|hge
  ·have hkl:k < l.length:=by omega
   obtain ⟨b,off,rfl,jW,c0,c1,c2',c3,c4,c5,c6,c7,c8,c9,jX,m1,m2⟩:=mR.at_ (HL.o.below hb) hkl;have hnext:=Gn l k hkl;have hlen:n2<=1000:=by
    have h1:=hN.len;have h2:=LU (l.take k);rw [aR] at h2;omega
   have hop:Ir l[k]:=⟨m1,m2⟩;generalize l[k]=x at*;have hki:(k:Int) < (n:Int):=by omega
   have dV:Below wr wr (wr.alloc (.cells (oc x).toArray 32)):=(aC _ _).alloc (aB _) _;have HD:=dL (P9 x A2 n2 c2 (fL (l.take k)) _ (hN.below dV) hop (by omega));have HB:=dL (hb.alloc hb.size (.cells (oc x).toArray 32));have ZD:w.heap.size<=(wr.alloc (.cells (oc x).toArray 32)).heap.size:=aI hb.size (by simp);have HS:=dL ZD;have vN:=dL hnext;clear hb dV hN hnext hop m1 m2 ZD hkl;unfold ov oc at HD;go_wp2_with fail;refine HD.o.mono ?_;rintro e w2 ⟨A3,Vq,rfl,yO,dn⟩;have UC:=dL yO;have eC:=dL (HB.o.trans (dn.mono HS.o));clear yO dn;go_wp2_with fail;exact ⟨⟨k+1,by omega,by go_num,⟨_,_,_,rfl,by rw [vN.o];exact UC.o⟩,eC.o⟩,by simp [intOf];omega⟩
  ·have hkn:¬ (k:Int) < (n:Int):=by omega
   have dy:l.take k=l:=af (by omega);rw [dy] at hN;have h2:=hN.len;subst h2;have HN:=dL hN;have HB:=dL hb;clear hN hb dy;go_wp2_with fail;go_ret;exact ⟨_,_,rfl,HN.o,HB.o⟩
end
end Go.Proofs.YtgdaahffmcfhpaaGreatDoor
