/- Lemmas on the way: VU. -/
import Derived.Test.YtgdaahffmcfhpaaGreatDoorT25
import Derived.Test.YtgdaahffmcfhpaaGreatDoorT00
set_option maxRecDepth 100000
set_option maxHeartbeats 8000000
namespace Go.Proofs.YtgdaahffmcfhpaaGreatDoor
open Tryz
section
open Go.RowKit
attribute [local go_sem] dO dL dQ dM
structure EG (B q1:Nat) (w0 w:World) (x:dV) (A:Option Addr) (n c:Nat) (xs:List Nd):Prop where
 b1:Blk w q1 32 (oc x).toArray
 nds:lq w A n c xs
 below:Below B w0 w
 h1:B<=q1
theorem EG.size {B q1:Nat} {w0 w:World} {x:dV} {A:Option Addr} {n c:Nat} {xs:List Nd} (h:EG B q1 w0 w x A n c xs):B<=w.heap.size:=ay (Nat.lt_of_le_of_lt h.h1 h.b1.lt)
theorem EG.after {B q1:Nat} {w0 w w':World} {x:dV} {A:Option Addr} {n c:Nat} {xs:List Nd} (h:EG B q1 w0 w x A n c xs) (hb:Below w.heap.size w w'):EG B q1 w0 w' x A n c xs:=
 ⟨h.b1.below hb h.b1.lt,h.nds.below hb,h.below.trans (hb.mono h.size),h.h1⟩
theorem EG.drew {B q1:Nat} {w0 w:World} {x:dV} {A:Option Addr} {n c:Nat} {xs:List Nd} (h:EG B q1 w0 w x A n c xs):EG B q1 w0 w.drew x A n c xs:=h.after (aC _ _).drew
theorem EG.alloc {B q1:Nat} {w0 w:World} {x:dV} {A:Option Addr} {n c:Nat} {xs:List Nd} (h:EG B q1 w0 w x A n c xs) (o:Obj):EG B q1 w0 (w.alloc o) x A n c xs:=h.after ((aC _ _).alloc (aB _) o)
theorem EG.start (w:World) (x:dV) (A:Option Addr) (n c:Nat) (xs:List Nd) (hx:lq w A n c xs):EG w.heap.size w.heap.size w (w.alloc (.cells (oc x).toArray 32)) x A n c xs:=
 ⟨Blk.new _ _ _,hx.below ((aC _ _).alloc (aB _) _),(aC _ _).alloc (aB _) _,aB _⟩
def lI (w:World) (ys:List Nd) (e:Ending) (w':World):Prop:=∃A c,e=.returned (.slice A ys.length c)/\lq w' A ys.length c ys/\Below w.heap.size w w'
theorem lI.same {w w':World} {q1:Nat} {x:dV} {A:Option Addr} {n c:Nat} {xs:List Nd} (h:EG w.heap.size q1 w w' x A n c xs):lI w xs (.returned (.slice A n c)) w':=by
 have:=h.nds.len;subst this;exact ⟨A,c,rfl,h.nds,h.below⟩
theorem lI.own {w w':World} {ys:List Nd} {v:Value} {B:Nat} (h:Own w' B v ys) (hs:Short ys) (hb:Below w.heap.size w w'):lI w ys (.returned v) w':=by
 obtain ⟨A,c,rfl,hn⟩:=h.nds hs;exact ⟨A,c,rfl,hn,hb⟩
theorem oL {B0:Nat} {w0 w:World} (h:Below B0 w0 w) {B:Nat} (hB:B0<=B) (x:Nd):Below B0 w0 (((((((w.setCell ⟨B,0,none⟩ (.int .i64 x.id.1)).setCell ⟨B,1,none⟩ (.int .i64 x.id.2)).setCell ⟨B,2,none⟩ (.bool x.dir)).setCell ⟨B,3,none⟩ (.int .i64 x.par.1)).setCell ⟨B,4,none⟩ (.int .i64 x.par.2)).setCell ⟨B,5,none⟩ (.string (bs x.nm))).setCell ⟨B,6,none⟩ (.string (bs x.mf))):=iL h hB x
theorem Jl {w:World} {B:Nat} {y:Nd} (x:Nd) (h:Blk w B 38 (nc y).toArray):Blk (((((((w.setCell ⟨B,0,none⟩ (.int .i64 x.id.1)).setCell ⟨B,1,none⟩ (.int .i64 x.id.2)).setCell ⟨B,2,none⟩ (.bool x.dir)).setCell ⟨B,3,none⟩ (.int .i64 x.par.1)).setCell ⟨B,4,none⟩ (.int .i64 x.par.2)).setCell ⟨B,5,none⟩ (.string (bs x.nm))).setCell ⟨B,6,none⟩ (.string (bs x.mf))) B 38 (nc x).toArray:=kR x h
theorem UB (x:dV) (A:Option Addr) (n c:Nat) (xs:List Nd) (w:World) (hx:lq w A n c xs) (hop:P7 x) (hm:n<=100000):
  Calls prog 63 #[.slice A n c,ov x] w (lI w (uR xs x)):=by
 have hn:=hx.len;have qJ:=hx.max;have hle:=hx.le;have hsh:=hx.short;have Rn:=EG.start w x A n c xs hx;obtain ⟨w1,hw1⟩:=dB (w.alloc (.cells (oc x).toArray 32));obtain ⟨q1,hq1⟩:=dB w.heap.size;have Rn:EG w.heap.size q1 w w1 x A n c xs:=by rw [hq1,hw1];exact Rn
 have HP:=dH (yT x.node A n c xs w1 Rn.nds);have HW:=dH (dK (x:=x) hw1);have HQ:=dH hq1;have Sw:=dH Rn;have BD:=dH hsh;have PU:=dH hop;obtain ⟨o0,o1,o2,o3,o4,o5,o6,o7,o8,o9,rR⟩:=eO Rn.b1;clear Rn hw1 hq1 hsh hop;unfold ov sv at*;obtain ⟨ys,hys⟩:=dB (uR xs x);rw [<-hys];rcases gq (en x.node) xs with ⟨k,hk,jQ,hp⟩| ⟨jQ,hall⟩
 ·rw [jQ] at HP
  rw [F9 hk jQ] at hys;have hk0:decide ((k:Int) < 0)=false:=decide_eq_false (by omega);have hkn:(k:Int) < (n:Int):=by omega
  by_cases h1:x.kind=1
  ·have e1:(x.kind ==1)=true:=by rw [h1];rfl
   rw [if_pos h1] at hys;have HY:=dH hys;clear hys h1 jQ hp;go_enter func63,ntmps63;go_upto_region 1 with (fail);rw [<-HW.o,<-HQ.o];go_wp2_with fail;refine HP.o.mono ?_;rintro e w2 ⟨rfl,dS⟩;have yJ:=dH (Sw.o.after dS);obtain ⟨o0,o1,o2,o3,o4,o5,o6,o7,o8,o9,rR⟩:=eO yJ.o.b1;clear dS;go_wp2_with fail;go_ret;rw [HY.o];exact lI.same yJ.o
  ·have e1:(x.kind ==1)=false:=by simpa using h1
   rw [if_neg h1] at hys;have HY:=dH hys;clear hys h1 jQ hp;go_enter func63,ntmps63;go_upto_region 1 with (fail);rw [<-HW.o,<-HQ.o];go_wp2_with fail;refine HP.o.mono ?_;rintro e w2 ⟨rfl,dS⟩;have yJ:=dH (Sw.o.after dS);clear o0 o1 o2 o3 o4 o5 o6 o7 o8 o9 rR;obtain ⟨o0,o1,o2,o3,o4,o5,o6,o7,o8,o9,rR⟩:=eO yJ.o.b1;clear dS;obtain ⟨b,off,rfl,jY,c0,c1,c2,c3,c4,c5,c6,m1,m2⟩:=lq.at_ yJ.o.nds hk;have Zy:=HY.o;generalize hyk:xs[k]=y at*;have HYk:=dH hyk;have HT:=dH (fun (w':World) (h:lq w' (some ⟨b,off,none⟩) n c xs)=>F8 y x (some ⟨b,off,none⟩) n c xs w' h hm);have HTs:=dH (tH (xs:=xs) PU.o (show y.nm.length<=9223372036854775807/\y.mf.length<=9223372036854775807 from ⟨m1,m2⟩));generalize (fe xs x y).1=z at*;generalize (fe xs x y).2=ok at*;have PV:=dH Zy;have hS:∀w',Below w2.heap.size w2 w'->w'.cell? ⟨b,off+k*7,none⟩=some (.int .i64 y.id.1)/\w'.cell? ⟨b,off+k*7+1,none⟩=some (.int .i64 y.id.2)/\w'.cell? ⟨b,off+k*7+2,none⟩=some (.bool y.dir)/\
     w'.cell? ⟨b,off+k*7+3,none⟩=some (.int .i64 y.par.1)/\w'.cell? ⟨b,off+k*7+4,none⟩=some (.int .i64 y.par.2)/\w'.cell? ⟨b,off+k*7+5,none⟩=some (.string (bs y.nm))/\w'.cell? ⟨b,off+k*7+6,none⟩=some (.string (bs y.mf))/\
     w'.cell? ⟨q1,0,none⟩=some (.int .i64 x.st.1)/\w'.cell? ⟨q1,1,none⟩=some (.int .i64 x.st.2)/\w'.cell? ⟨q1,2,none⟩=some (.int .i64 x.seq)/\w'.cell? ⟨q1,3,none⟩=some (.int .i64 x.kind)/\w'.cell? ⟨q1,4,none⟩=some (.int .i64 x.node.1)/\w'.cell? ⟨q1,5,none⟩=some (.int .i64 x.node.2)/\w'.cell? ⟨q1,6,none⟩=some (.bool x.dir)/\w'.cell? ⟨q1,7,none⟩=some (.int .i64 x.par.1)/\w'.cell? ⟨q1,8,none⟩=some (.int .i64 x.par.2)/\w'.cell? ⟨q1,9,none⟩=some (.string (bs x.nm))/\w'.cell? ⟨q1,10,none⟩=some (.string (bs x.mf)):=fun w' hb=>by
    have hq:=yJ.o.b1.lt;exact ⟨dP hb jY c0,dP hb jY c1,dP hb jY c2,dP hb jY c3,dP hb jY c4,dP hb jY c5,dP hb jY c6,dP hb hq o0,dP hb hq o1,dP hb hq o2,dP hb hq o3,dP hb hq o4,dP hb hq o5,dP hb hq o6,dP hb hq o7,dP hb hq o8,dP hb hq o9,dP hb hq rR⟩
   have HS:=dH hS;clear hS Zy hyk m1 m2 HY;unfold nv ov at HT;go_upto_region 9 with (fail);clear c0 c1 c2 c3 c4 c5 c6 o0 o1 o2 o3 o4 o5 o6 o7 o8 o9 rR;go_region_held3 (fun w'=>w'.cell? ⟨b,off+k*7,none⟩=some (.int .i64 y.id.1)/\w'.cell? ⟨b,off+k*7+1,none⟩=some (.int .i64 y.id.2)/\w'.cell? ⟨b,off+k*7+2,none⟩=some (.bool y.dir)/\
     w'.cell? ⟨b,off+k*7+3,none⟩=some (.int .i64 y.par.1)/\w'.cell? ⟨b,off+k*7+4,none⟩=some (.int .i64 y.par.2)/\w'.cell? ⟨b,off+k*7+5,none⟩=some (.string (bs y.nm))/\w'.cell? ⟨b,off+k*7+6,none⟩=some (.string (bs y.mf))/\
     w'.cell? ⟨q1,0,none⟩=some (.int .i64 x.st.1)/\w'.cell? ⟨q1,1,none⟩=some (.int .i64 x.st.2)/\w'.cell? ⟨q1,2,none⟩=some (.int .i64 x.seq)/\w'.cell? ⟨q1,3,none⟩=some (.int .i64 x.kind)/\w'.cell? ⟨q1,4,none⟩=some (.int .i64 x.node.1)/\w'.cell? ⟨q1,5,none⟩=some (.int .i64 x.node.2)/\w'.cell? ⟨q1,6,none⟩=some (.bool x.dir)/\w'.cell? ⟨q1,7,none⟩=some (.int .i64 x.par.1)/\w'.cell? ⟨q1,8,none⟩=some (.int .i64 x.par.2)/\w'.cell? ⟨q1,9,none⟩=some (.string (bs x.nm))/\w'.cell? ⟨q1,10,none⟩=some (.string (bs x.mf)))
    (with_reducible first|exact HS.o _ KN.o|exact HS.o _ (KN.o.alloc KN.o.size _)|exact HS.o _ (oL KN.o (aB _) z)|exact HS.o _ (oL (KN.o.alloc KN.o.size _) KN.o.size z)|exact HS.o _ (aC _ _).drew|exact HS.o _ ((aC _ _).alloc (aB _) _).drew|exact HS.o _ ((aC _ _).alloc (aB _) _))
    (first
     |(go_at_call 110;(with_reducible refine (HT.o _ (yJ.o.drew.nds)).mono ?_);rintro e w3 ⟨rfl,di⟩;have KN:=dH ((aC w2.heap.size w2).drew.trans di);clear di)
     |(go_at_call 110;(with_reducible refine (HT.o _ ((yJ.o.alloc (.cells #[.int .i64 0,.int .i64 0,.bool false,.int .i64 0,.int .i64 0,.string ⟨#[]⟩,.string ⟨#[]⟩] 38)).drew.nds)).mono ?_);rintro e w3 ⟨rfl,di⟩;have KN:=dH (((aC w2.heap.size w2).alloc (aB _) (.cells (nc nd0).toArray 38)).drew.trans (di.mono (by simp)));have hZ:=Blk.below (Blk.drew (Blk.new w2 38 (nc nd0).toArray)) di (by simp);obtain ⟨r0,r1,r2,r3,r4,r5,r6⟩:=eU hZ;obtain ⟨g0,g1,g2,g3,g4,g5,g6⟩:=gC hZ;have HZ:=dH hZ;clear hZ di))
   ·have jA:=KN.o.alloc KN.o.size (.cells (nc z).toArray 38)
    have si:=Blk.new w3 38 (nc z).toArray;obtain ⟨w4,uP⟩:=dB (w3.alloc (.cells #[.int .i64 z.id.1,.int .i64 z.id.2,.bool z.dir,.int .i64 z.par.1,.int .i64 z.par.2,.string (bs z.nm),.string (bs z.mf)] 38));obtain ⟨q2,iK⟩:=dB w3.heap.size;have jA:Below w2.heap.size w2 w4:=by rw [uP];exact jA
    have si:Blk w4 q2 38 (nc z).toArray:=by rw [uP,iK];exact si
    rw [<-uP,<-iK];have fD:=dH jA;have OU:=dH si;clear uP iK jA si KN;cases ok with
    |false=>
     go_wp2_with fail;go_ret;have Vs:dG (ys=xs):=by show ys=_;rw [PV.o,if_neg (by decide)]
     rw [Vs.o];exact lI.same (yJ.o.after fD.o)
    |true=>
     have Vs:dG (ys=xs.set k z):=by show ys=_;rw [PV.o,if_pos rfl]
     have rJ:=dH (yJ.o.after fD.o);clear PV;go_wp2_with fail;refine (iR (some ⟨b,off,none⟩) n c xs w4 rJ.o.nds (by omega)).mono ?_;rintro e w5 ⟨v5,rfl,ux,eu⟩;unfold Own at ux;rw [hn] at ux;have Zz:=Blk.below OU.o eu OU.o.lt;obtain ⟨g,cap,rfl,hg,hlt,hnc,hcm,hx5,TM⟩:=dN.form ux (by omega);have pT:=fun j (hj:j < 7)=>hx5 (k*7+j) ((nc xs[k])[j]'hj) (by rw [pX xs k j hk hj,bf (by exact hj)])
     have E2:=fun j (hj:j < 7)=>TM (k*7+j) (by omega)
     have d0:=pT 0 (by decide);have d1:=pT 1 (by decide);have d2:=pT 2 (by decide);have d3:=pT 3 (by decide);have d4:=pT 4 (by decide);have d5:=pT 5 (by decide);have d6:=pT 6 (by decide);have f0:=E2 0 (by decide);have f1:=E2 1 (by decide);have f2:=E2 2 (by decide);have f3:=E2 3 (by decide);have f4:=E2 4 (by decide);have f5:=E2 5 (by decide);have f6:=E2 6 (by decide);simp only [bQ] at d0 f0;obtain ⟨c0,c1,c2,c3,c4,c5,c6⟩:=eU Zz;have eC:=Own.set_ hn ux k (by omega) z;have GF:Below w.heap.size w (n9 w5 g (k*7) z):=ef (rJ.o.below.trans (eu.mono rJ.o.size)) eC.2 (aK rJ.o.size hg) (aK rJ.o.size eu.size);have HF:dG (lI w ys (.returned (.slice (some ⟨g,0,none⟩) n cap)) (n9 w5 g (k*7) z)):=by
      rw [Vs.o];have h1:=eC.1;have hl:(xs.set k z).length=n:=by rw [cQ,hn]
      refine lI.own (B:=w4.heap.size) (ys:=xs.set k z) ?_ (sD BD.o HTs.o k) GF;unfold Own;rw [hl];exact h1
     unfold n9 at HF;have hne:g≠q2:=by have:=OU.o.lt;omega
     have abR:q2≠g:=hne.symm;clear eC GF pT E2 hx5 TM ux Zz eu hg hlt hnc hcm;go_wp2_with fail;go_ret;exact HF.o
   ·have jA:=oL KN.o (aB _) z
    have si:=Jl z HZ.o;obtain ⟨w4,uP⟩:=dB ((((((((w3.setCell ⟨w2.heap.size,0,none⟩ (.int .i64 z.id.1)).setCell ⟨w2.heap.size,1,none⟩ (.int .i64 z.id.2)).setCell ⟨w2.heap.size,2,none⟩ (.bool z.dir)).setCell ⟨w2.heap.size,3,none⟩ (.int .i64 z.par.1)).setCell ⟨w2.heap.size,4,none⟩ (.int .i64 z.par.2)).setCell ⟨w2.heap.size,5,none⟩ (.string (bs z.nm))).setCell ⟨w2.heap.size,6,none⟩ (.string (bs z.mf))));obtain ⟨q2,iK⟩:=dB w2.heap.size;rw [<-uP] at jA si;rw [<-iK] at si;rw [<-uP,<-iK];clear r0 r1 r2 r3 r4 r5 r6 g0 g1 g2 g3 g4 g5 g6 HZ;have fD:=dH jA;have OU:=dH si;clear uP iK jA si KN;cases ok with
    |false=>
     go_wp2_with fail;go_ret;have Vs:dG (ys=xs):=by show ys=_;rw [PV.o,if_neg (by decide)]
     rw [Vs.o];exact lI.same (yJ.o.after fD.o)
    |true=>
     have Vs:dG (ys=xs.set k z):=by show ys=_;rw [PV.o,if_pos rfl]
     have rJ:=dH (yJ.o.after fD.o);clear PV;go_wp2_with fail;refine (iR (some ⟨b,off,none⟩) n c xs w4 rJ.o.nds (by omega)).mono ?_;rintro e w5 ⟨v5,rfl,ux,eu⟩;unfold Own at ux;rw [hn] at ux;have Zz:=Blk.below OU.o eu OU.o.lt;obtain ⟨g,cap,rfl,hg,hlt,hnc,hcm,hx5,TM⟩:=dN.form ux (by omega);have pT:=fun j (hj:j < 7)=>hx5 (k*7+j) ((nc xs[k])[j]'hj) (by rw [pX xs k j hk hj,bf (by exact hj)])
     have E2:=fun j (hj:j < 7)=>TM (k*7+j) (by omega)
     have d0:=pT 0 (by decide);have d1:=pT 1 (by decide);have d2:=pT 2 (by decide);have d3:=pT 3 (by decide);have d4:=pT 4 (by decide);have d5:=pT 5 (by decide);have d6:=pT 6 (by decide);have f0:=E2 0 (by decide);have f1:=E2 1 (by decide);have f2:=E2 2 (by decide);have f3:=E2 3 (by decide);have f4:=E2 4 (by decide);have f5:=E2 5 (by decide);have f6:=E2 6 (by decide);simp only [bQ] at d0 f0;obtain ⟨c0,c1,c2,c3,c4,c5,c6⟩:=eU Zz;have eC:=Own.set_ hn ux k (by omega) z;have GF:Below w.heap.size w (n9 w5 g (k*7) z):=ef (rJ.o.below.trans (eu.mono rJ.o.size)) eC.2 (aK rJ.o.size hg) (aK rJ.o.size eu.size);have HF:dG (lI w ys (.returned (.slice (some ⟨g,0,none⟩) n cap)) (n9 w5 g (k*7) z)):=by
      rw [Vs.o];have h1:=eC.1;have hl:(xs.set k z).length=n:=by rw [cQ,hn]
      refine lI.own (B:=w4.heap.size) (ys:=xs.set k z) ?_ (sD BD.o HTs.o k) GF;unfold Own;rw [hl];exact h1
     unfold n9 at HF;have hne:g≠q2:=by have:=OU.o.lt;omega
     have abR:q2≠g:=hne.symm;clear eC GF pT E2 hx5 TM ux Zz eu hg hlt hnc hcm;go_wp2_with fail;go_ret;exact HF.o
 ·rw [jQ] at HP
  rw [FA jQ] at hys;have hk0:decide ((-1:Int) < 0)=true:=by decide
  by_cases h1:x.kind=1
  ·have e1:(x.kind ==1)=true:=by rw [h1];rfl
   rw [if_pos h1] at hys;have HY:=dH hys;clear hys h1 jQ hall;go_enter func63,ntmps63;go_upto_region 1 with (fail);rw [<-HW.o,<-HQ.o];go_wp2_with fail;refine HP.o.mono ?_;rintro e w2 ⟨rfl,dS⟩;have yJ:=dH (Sw.o.after dS);clear o0 o1 o2 o3 o4 o5 o6 o7 o8 o9 rR;obtain ⟨o0,o1,o2,o3,o4,o5,o6,o7,o8,o9,rR⟩:=eO yJ.o.b1;clear dS;go_upto_region 4 with (fail);obtain ⟨y0,hy0⟩:∃y0:Nd,y0= ⟨x.node,x.dir,x.par,x.nm,x.mf⟩:=⟨_,rfl⟩;have hD3:=yJ.o.alloc (.cells (nc y0).toArray 38);have uF:=Blk.new w2 38 (nc y0).toArray;have hsz:=yJ.o.size;obtain ⟨w3,iI⟩:=dB (w2.alloc (.cells (nc y0).toArray 38));obtain ⟨q2,iK⟩:=dB w2.heap.size;rw [<-iI,<-iK] at uF;rw [<-iI] at hD3;rw [<-iK] at hsz;have aaa:w3=w2.alloc (.cells #[.int .i64 x.node.1,.int .i64 x.node.2,.bool x.dir,.int .i64 x.par.1,.int .i64 x.par.2,.string (bs x.nm),.string (bs x.mf)] 38):=by rw [iI,hy0];rfl
   rw [<-aaa,<-iK];have HD3:=dH hD3;have dw:=dH uF;have O2:=dH hsz;have uo:=dH hy0;have tc:=dH (yU x.par A n c xs w3 hD3.nds);unfold sv at tc;obtain ⟨c0,c1,c2,c3,c4,c5,c6⟩:=eU (hy0 ▸ uF);clear hD3 uF hsz iI aaa iK o0 o1 o2 o3 o4 o5 o6 o7 o8 o9 rR;clear hy0;have hoy:y0.nm.length<=9223372036854775807/\y0.mf.length<=9223372036854775807:=by rw [uo.o];exact PU.o
   have HOy:=dH hoy;clear hoy;cases ht:fI x.par xs with
   |true=>
    rw [ht] at tc;have HYt:dG (ys=fu xs y0):=by show ys=_;rw [HY.o,if_pos ht,uo.o]
    clear ht HY;go_wp2_with fail;refine tc.o.mono ?_;rintro e w4 ⟨rfl,hb4⟩;have jA:=Blk.below dw.o hb4 dw.o.lt;have rJ:=dH (HD3.o.after hb4);clear hb4 c0 c1 c2 c3 c4 c5 c6;obtain ⟨c0,c1,c2,c3,c4,c5,c6⟩:=eU jA;clear jA;have HG:=dH (zB y0 A n c xs w4 rJ.o.nds hm);unfold nv at HG;go_wp2_with fail;refine HG.o.mono ?_;rintro e w5 ⟨v5,rfl,ux,eu⟩;have HF:dG (lI w ys (.returned v5) w5):=by
     rw [HYt.o];exact lI.own ux (oG BD.o HOy.o) (rJ.o.below.trans (eu.mono rJ.o.size))
    clear ux eu;go_wp2_with fail;go_ret;exact HF.o
   |false=>
    rw [ht] at tc;have HYt:dG (ys=fu xs { y0 with par:=(0,1) }):=by show ys=_;rw [HY.o,if_neg (by rw [ht];decide),uo.o]
    clear ht HY;go_wp2_with fail;refine tc.o.mono ?_;rintro e w4 ⟨rfl,hb4⟩;have fD:=dH (Blk.below dw.o hb4 dw.o.lt);have rJ:=dH (HD3.o.after hb4);clear hb4 c0 c1 c2 c3 c4 c5 c6;go_wp2_with fail;refine (C0 w4).mono ?_;rintro e w6 ⟨rfl,iW⟩;have Km:=Blk.below fD.o iW fD.o.lt;have hD6:=rJ.o.after iW;have jc:=dH Km;have xP:=dH hD6;obtain ⟨c0,c1,c2,c3,c4,c5,c6⟩:=eU Km;obtain ⟨f0,f1,f2,f3,f4,f5,f6⟩:=gC Km;clear iW Km hD6;go_upto_region 6 with (fail);have Sj:Blk ((w6.setCell ⟨q2,3,none⟩ (.int .i64 0)).setCell ⟨q2,4,none⟩ (.int .i64 1)) q2 38 (nc { y0 with par:=(0,1) }).toArray:=by
     have:=Blk.set_ (Blk.set_ jc.o 3 (.int .i64 0)) 4 (.int .i64 1);simpa [nc] using this
    have lZ:Below w.heap.size w ((w6.setCell ⟨q2,3,none⟩ (.int .i64 0)).setCell ⟨q2,4,none⟩ (.int .i64 1)):=
     (xP.o.below.setCell (p:=⟨q2,3,none⟩) O2.o _).setCell (p:=⟨q2,4,none⟩) O2.o _
    have hs7:w.heap.size<=((w6.setCell ⟨q2,3,none⟩ (.int .i64 0)).setCell ⟨q2,4,none⟩ (.int .i64 1)).heap.size:=by simpa [World.setCell] using xP.o.size
    obtain ⟨w7,nK⟩:=dB ((w6.setCell ⟨q2,3,none⟩ (.int .i64 0)).setCell ⟨q2,4,none⟩ (.int .i64 1));rw [<-nK] at Sj lZ hs7;rw [<-nK];have HX7:=dH (hx.below lZ);have jl:=dH lZ;have Kf:=dH hs7;clear nK lZ hs7 c0 c1 c2 c3 c4 c5 c6 f0 f1 f2 f3 f4 f5 f6 hx;obtain ⟨c0,c1,c2,c3,c4,c5,c6⟩:=eU Sj;clear Sj;have HG:=dH (zB { y0 with par:=(0,1) } A n c xs w7 HX7.o hm);unfold nv at HG;go_wp2_with fail;refine HG.o.mono ?_;rintro e w5 ⟨v5,rfl,ux,eu⟩;have HF:dG (lI w ys (.returned v5) w5):=by
     rw [HYt.o];exact lI.own ux (oG BD.o HOy.o) (jl.o.trans (eu.mono Kf.o))
    clear ux eu;go_wp2_with fail;go_ret;exact HF.o
  ·have e1:(x.kind ==1)=false:=by simpa using h1
   rw [if_neg h1] at hys;have HY:=dH hys;clear hys h1 jQ hall;go_enter func63,ntmps63;go_upto_region 1 with (fail);rw [<-HW.o,<-HQ.o];go_wp2_with fail;refine HP.o.mono ?_;rintro e w2 ⟨rfl,dS⟩;have yJ:=dH (Sw.o.after dS);obtain ⟨o0,o1,o2,o3,o4,o5,o6,o7,o8,o9,rR⟩:=eO yJ.o.b1;clear dS;go_wp2_with fail;go_ret;rw [HY.o];exact lI.same yJ.o
end
end Go.Proofs.YtgdaahffmcfhpaaGreatDoor
