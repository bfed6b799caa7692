/- Lemmas on the way: VT VSn VSm VSo. -/
import Derived.Test.YtgdaahffmcfhpaaGreatDoorO14
import Derived.Test.YtgdaahffmcfhpaaGreatDoorO21
set_option maxRecDepth 100000
set_option maxHeartbeats 8000000
namespace Go.Proofs.YtgdaahffmcfhpaaGreatDoor
open aA
open Tryz
section
set_option linter.unusedSimpArgs false
set_option linter.unusedVariables false
open Go.RowKit
attribute [local go_sem] dR dO dS dP
variable {xs:List Nd} {x:dX}
theorem Bg {k:Nat} (hk:k < xs.length) (h:fS (eZ x.node) xs=k):
  uI xs x=if x.kind=1 then xs else if (jb xs x xs[k]).2 then xs.set k (jb xs x xs[k]).1 else xs:=by
 have h1:xs.findIdx? (eZ x.node)=some k:=by
  unfold fS at h;cases hf:xs.findIdx? (eZ x.node) with
  |none=>rw [hf] at h;have h:(-1:Int)=k:=h;omega
  |some i=>rw [hf] at h;have h:(i:Int)=k:=h;congr 1;omega
 unfold uI;rw [h1];simp only [Rz,List.getD_eq_getElem?_getD,bh hk,bw];by_cases h1:x.kind=1
 ·simp [h1]
 ·simp only [h1,if_false]
  by_cases h2:(jb xs x xs[k]).2=true
  ·simp [h2]
  ·simp [h2]
theorem Bh (h:fS (eZ x.node) xs= -1):
  uI xs x=if x.kind=1 then gI xs ⟨x.node,x.dir,if gM x.par xs then x.par else (0,1),x.nm,x.mf⟩ else xs:=by
 have h1:xs.findIdx? (eZ x.node)=none:=by
  unfold fS at h;cases hf:xs.findIdx? (eZ x.node) with
  |none=>rfl
  |some i=>rw [hf] at h;have h:(i:Int)= -1:=h;omega
 unfold uI;rw [h1]
def Ir (x:dX):Prop:=x.nm.length<=9223372036854775807/\x.mf.length<=9223372036854775807
variable {y:Nd}
theorem uP (hx:Ir x) (hy:y.nm.length<=9223372036854775807/\y.mf.length<=9223372036854775807):(jb xs x y).1.nm.length<=9223372036854775807/\(jb xs x y).1.mf.length<=9223372036854775807:=by
 unfold jb;by_cases h2:x.kind=2
 ·simp only [h2,if_true];exact ⟨hx.1,hy.2⟩
 by_cases h3:x.kind=3
 ·simp only [h2,h3,if_true,if_false];exact ⟨hy.1,hx.2⟩
 by_cases h4:x.kind=4
 ·simp only [h2,h3,h4,if_true,if_false];exact hy
 ·simp only [h2,h3,h4,if_false];exact hy
theorem tL (h:Short xs) (hy:y.nm.length<=9223372036854775807/\y.mf.length<=9223372036854775807) (k:Nat):Short (xs.set k y):=by
 intro x hx;rcases List.mem_or_eq_of_mem_set hx with hx|rfl
 ·exact h x hx
 ·exact hy
theorem ou (h:Short xs) (hy:y.nm.length<=9223372036854775807/\y.mf.length<=9223372036854775807):Short (gI xs y):=BW h hy _
theorem Ki (h:Short xs) (hx:Ir x):Short (uI xs x):=by
 rcases gZ (eZ x.node) xs with ⟨k,hk,iU,_⟩| ⟨iU,_⟩
 ·rw [Bg hk iU]
  split
  ·exact h
  ·split
   ·exact tL h (uP hx (h _ (aa hk))) k
   ·exact h
 ·rw [Bh iU]
  split
  ·exact ou h hx
  ·exact h
theorem SN (xs:List Nd) (x:dX):(uI xs x).length<=xs.length+1:=by
 rcases gZ (eZ x.node) xs with ⟨k,hk,iU,_⟩| ⟨iU,_⟩
 ·rw [Bg hk iU]
  split
  ·omega
  ·split
   ·simp
   ·omega
 ·rw [Bh iU]
  split
  ·simp [gI];omega
  ·omega
def nU (w:World) (g o:Nat) (x:Nd):World:=((((((w.setCell (Qc g o) x.id.1).setCell ⟨g,o+1,none⟩ x.id.2).setCell ⟨g,o+2,none⟩ x.dir).setCell ⟨g,o+3,none⟩ x.par.1).setCell ⟨g,o+4,none⟩ x.par.2).setCell ⟨g,o+5,none⟩ x.nm).setCell ⟨g,o+6,none⟩ x.mf
theorem Bi (w:World) (g o:Nat) (x:Nd):nU w g o x=w.setCells g o (nc x):=rfl
theorem SO (xs:List Nd) (k:Nat) (hk:k < xs.length) (y:Nd):∀j u,(jU (xs.set k y))[j]? =some u->(k*7<=j/\j < k*7+7/\(nc y)[j - k*7]? =some u)\/((j < k*7\/k*7+7<=j)/\(jU xs)[j]? =some u):=by
 intro j u hu;have hj:j < xs.length*7:=by
  rcases aD j (xs.length*7) with h|h
  ·exact h
  ·rw [bD (by rw [ia,cT];exact h)] at hu;cases hu
 have hjk:j / 7 < xs.length:=by omega
 have e:j=j / 7*7+j % 7:=by omega
 have h1:=qd (xs.set k y) (j / 7) (j % 7) (by rw [cT];exact hjk) (Nat.mod_lt _ (by decide));have h2:=qd xs (j / 7) (j % 7) hjk (Nat.mod_lt _ (by decide));rw [<-e] at h1 h2;by_cases h:j / 7=k
 ·subst h
  rw [List.getElem_set_self] at h1;refine .inl ⟨by omega,by omega,?_⟩;rw [show j - j / 7*7=j % 7 by omega,<-h1];exact hu
 ·rw [List.getElem_set_ne (λe=>h e.symm)] at h1
  exact .inr ⟨by omega,by rw [h2,<-h1];exact hu⟩
theorem Own.set_{w:World} {B g c n:Nat} (hn:xs.length=n) (h:dQ w B 7 (.slice (some g) n c) n (jU xs)) (k:Nat) (hk:k < n) (y:Nd):
  dQ (nU w g (k*7) y) B 7 (.slice (some g) n c) n (jU (xs.set k y))/\w.grownBy (nU w g (k*7) y) (some g):=by
 subst hn;rcases h.2 with ⟨h0,_⟩| ⟨g',cap,he,hb,hlt,hnc,hcm,hs,hf,hx⟩
 ·cases h0
 obtain ⟨rfl,rfl⟩:g=g'/\c=cap:=by cases he;exact ⟨rfl,rfl⟩
 have hkc:k*7+7<=c*7:=by omega
 rw [Bi];have hl:(nc y).length=7:=rfl;refine ⟨⟨by rw [ia,cT],.inr ⟨g,c,rfl,hb,?_,hnc,hcm,λj hj=>World.isSome_setCells g _ _ _ _ (hs j hj),λj hj=>by rw [World.frozen?_setCells];exact hf j hj,λj u hu=>?_⟩⟩,?_⟩
 ·rw [eH];exact hlt
 ·rcases SO xs k hk y j u hu with ⟨h1,h2,h3⟩| ⟨h1,h2⟩
  ·obtain ⟨hj,rfl⟩:=cR.1 h3
   have:=World.cell?_setCells_in g (nc y) (k*7) w (λi hi=>hs _ (by omega)) (j - k*7) hj
   rwa [show k*7+(j - k*7)=j by omega] at this
  ·rw [World.cell?_setCells_out _ _ _ _ _ (λ_ _=>by show j < _\/_<=j;omega)]
   exact hx j u h2
 ·exact ⟨fu _ _ _ _,eS _ _ _ _,fV _ _ _ _,by rw [eH];exact aB _,λi hi hne=>World.heap_setCells_other w g _ _ hi (λe=>hne (by rw [e]))⟩
end
section
set_option linter.unusedSimpArgs false
set_option linter.unusedVariables false
open Go.RowKit
attribute [local go_sem] dR dO dS dP
structure Rec where
 op:dX
 was:Nd
 had:Bool
 made:Bool
instance:Inhabited Rec:=⟨⟨default,default,false,false⟩⟩
def rc (d:Rec):List Value:=oc d.op++(nc d.was++[.bool d.had,.bool d.made])
def fP (w:World) (g o:Nat) (d:Rec):Prop:=g < w.heap.size/\∀j u,(rc d)[j]? =some u->w.cell? ⟨g,o+j,none⟩=some u
variable {w:World} {d:Rec}
theorem fP.below{w':World} {g o:Nat} (h:fP w g o d) (hb:Below w w w'):fP w' g o d:=⟨aN h.1 hb.size,λj u hu=>dU hb h.1 (h.2 j u hu)⟩
theorem fP.op_ {g o:Nat} (h:fP w g o d):w.cell? (Qc g o)=d.op.st.1/\w.cell? ⟨g,o+1,none⟩=d.op.st.2/\w.cell? ⟨g,o+2,none⟩=d.op.seq/\w.cell? ⟨g,o+3,none⟩=d.op.kind/\w.cell? ⟨g,o+4,none⟩=d.op.node.1/\w.cell? ⟨g,o+5,none⟩=d.op.node.2/\w.cell? ⟨g,o+6,none⟩=d.op.dir/\w.cell? ⟨g,o+7,none⟩=d.op.par.1/\w.cell? ⟨g,o+8,none⟩=d.op.par.2/\w.cell? ⟨g,o+9,none⟩=d.op.nm/\w.cell? ⟨g,o+10,none⟩=d.op.mf:=
 ⟨h.2 0 _ rfl,h.2 1 _ rfl,h.2 2 _ rfl,h.2 3 _ rfl,h.2 4 _ rfl,h.2 5 _ rfl,h.2 6 _ rfl,h.2 7 _ rfl,h.2 8 _ rfl,h.2 9 _ rfl,h.2 10 _ rfl⟩
theorem fP.was_ {g o:Nat} (h:fP w g o d):w.cell? ⟨g,o+11,none⟩=d.was.id.1/\w.cell? ⟨g,o+12,none⟩=d.was.id.2/\w.cell? ⟨g,o+13,none⟩=d.was.dir/\w.cell? ⟨g,o+14,none⟩=d.was.par.1/\w.cell? ⟨g,o+15,none⟩=d.was.par.2/\w.cell? ⟨g,o+16,none⟩=d.was.nm/\w.cell? ⟨g,o+17,none⟩=d.was.mf:=
 ⟨h.2 11 _ rfl,h.2 12 _ rfl,h.2 13 _ rfl,h.2 14 _ rfl,h.2 15 _ rfl,h.2 16 _ rfl,h.2 17 _ rfl⟩
theorem fP.had_ {g o:Nat} (h:fP w g o d):w.cell? ⟨g,o+18,none⟩=d.had/\w.cell? ⟨g,o+19,none⟩=d.made:=⟨h.2 18 _ rfl,h.2 19 _ rfl⟩
def fZ (es:List Nd) (x:dX) (y:Nd) (had:Bool):Nd×Bool:=
 if x.kind=1 then (⟨x.node,x.dir,if gM x.par es then x.par else (0,1),x.nm,x.mf⟩,!had)
 else if x.kind=2 then ({ y with par:=x.par,nm:=x.nm },had && gM x.par es && !belowP es (es.length+1) x.par x.node)
 else if x.kind=3 then ({ y with mf:=x.mf },had && !y.dir)
 else if x.kind=4 then ({ y with par:=(0,1) },had)
 else (y,false)
structure Nx (B q4 q6:Nat) (w0 w:World) (z y:Nd):Prop where
 b4:Blk w q4 38 (nc z).toArray
 b6:Blk w q6 38 (nc y).toArray
 below:Below B w0 w
 h4:B<=q4
 h6:B<=q6
 ne:q4≠q6
section
variable {B q4 q6:Nat} {w0 w w':World} {z y:Nd}
theorem Nx.size (h:Nx B q4 q6 w0 w z y):B<=w.heap.size:=ag (Nat.lt_of_le_of_lt h.h4 h.b4.lt)
theorem Nx.after (h:Nx B q4 q6 w0 w z y) (hb:Below w w w'):Nx B q4 q6 w0 w' z y:=
 ⟨h.b4.below hb h.b4.lt,h.b6.below hb h.b6.lt,h.below.trans (hb.mono h.size),h.h4,h.h6,h.ne⟩
theorem Nx.drew (h:Nx B q4 q6 w0 w z y):Nx B q4 q6 w0 w.drew z y:=h.after (aC _ _).drew
theorem Nx.last (h:Nx B q4 q6 w0 w z y):Nx B q4 q6 w0 (jJ w q4 y) y y:=⟨jw y h.b4,rX h.b6 (λe=>h.ne e.symm) y,ij h.below h.h4 y,h.h4,h.h6,h.ne⟩
theorem Nx.put6 (h:Nx B q4 q6 w0 w z y) (u:Nd):Nx B q4 q6 w0 (jJ w q6 u) z u:=⟨rX h.b4 h.ne u,jw u h.b6,ij h.below h.h6 u,h.h4,h.h6,h.ne⟩
theorem Nx.set1 (h:Nx B q4 q6 w0 w z y) (i:Nat) (u:Value) (y':Nd) (he:(nc y).toArray.setIfInBounds i u=(nc y').toArray):Nx B q4 q6 w0 (w.setCell (Qc q6 i) u) z y':=
 ⟨Blk.far h.b4 h.ne u,he ▸ Blk.set_ h.b6 i u,h.below.setCell (p:=Qc q6 i) h.h6 u,h.h4,h.h6,h.ne⟩
theorem Nx.par (h:Nx B q4 q6 w0 w z y) (p:St):Nx B q4 q6 w0 ((w.setCell (Qc q6 3) p.1).setCell (Qc q6 4) p.2) z { y with par:=p }:=
 (h.set1 3 (.int .i64 p.1) { y with par:=(p.1,y.par.2) } (by simp [nc])).set1 4 (.int .i64 p.2) { y with par:=p } (by simp [nc])
theorem Nx.nm (h:Nx B q4 q6 w0 w z y) (s:List UInt8):Nx B q4 q6 w0 (w.setCell (Qc q6 5) s) z { y with nm:=s }:=h.set1 5 _ _ (by simp [nc])
theorem Nx.mf (h:Nx B q4 q6 w0 w z y) (s:List UInt8):Nx B q4 q6 w0 (w.setCell (Qc q6 6) s) z { y with mf:=s }:=h.set1 6 _ _ (by simp [nc])
end
theorem lG (y:Nd) (w:World):∃w2 q4 q6,w2=(w.alloc (.cells (nc nd0).toArray 38)).alloc (.cells (nc y).toArray 38)/\q4=w.heap.size/\q6=w.heap.size+1/\Nx w q4 q6 w w2 nd0 y:=by
 refine ⟨_,_,_,rfl,rfl,rfl,?_⟩;have h1:=(Blk.new w 38 (nc nd0).toArray).alloc (.cells (nc y).toArray 38);have h2:=Blk.new2 w (.cells (nc nd0).toArray 38) 38 (nc y).toArray;have b0:=(aC w w).alloc (aB _) (.cells (nc nd0).toArray 38);exact ⟨h1,h2,b0.alloc b0.size _,aB _,by omega,by omega⟩
theorem Kj (x:dX) (y:Nd) (had made:Bool) (h4:x.kind=4) (g o p m:Nat) (v:Value) (r:Int) (es:List Nd) (w:World) (hd:fP w g o ⟨x,y,had,made⟩) (h:kY w p m v r es) (hm:es.length<=1000000):
  Calls prog 91 #[Qp p,.pointer (some ⟨g,o,none⟩)] w λe w'=>
   e=.returned (.tuple #[nv (fZ es x y had).1,.bool (fZ es x y had).2])/\Below w w w':=by
 obtain ⟨w2,q4,q6,eV,sQ,Ch,hN⟩:=lG y w;have hd2:=hd.below (w':=w2) ((aC _ _).trans (hN.below.mono (aB _)));have HN:=dL hN;have HS:=dL (h.below (w':=w2) hN.below);have HR:=dL hd2;have uB:=dL hd;have yV:=dL h;obtain ⟨a0,a1,a2,a3,a4,a5,a6⟩:=(hd.below (w':=w.alloc (.cells zn 38)) ((aC _ _).alloc (aB _) _)).was_;have HW:=dL (show w2=(w.alloc (.cells #[qn,qn,false,qn,qn,yj,yj] 38)).alloc (.cells #[y.id.1,y.id.2,y.dir,y.par.1,y.par.2,y.nm,y.mf] 38) from eV);have HQ:=dL (And.intro sQ Ch);obtain ⟨o0,o1,o2,o3,o4,o5,o6,o7,o8,o9,sY⟩:=hd2.op_;obtain ⟨hh,sZ⟩:=hd2.had_;obtain ⟨z0,z1,z2,z3,z4,z5,z6⟩:=eW hN.b4;obtain ⟨g0,g1,g2,g3,g4,g5,g6⟩:=gP hN.b4;obtain ⟨c0,c1,c2,c3,c4,c5,c6⟩:=eW hN.b6;obtain ⟨f0,f1,f2,f3,f4,f5,f6⟩:=gP hN.b6;have n46:=hN.ne;have n64:=n46.symm;unfold zn at a0 a1 a2 a3 a4 a5 a6;clear hd hd2 hN h eV sQ Ch;unfold nv fZ;have e1:(x.kind ==1)=false:=by rw [h4];rfl
 have e2:(x.kind ==2)=false:=by rw [h4];rfl
 have e3:(x.kind ==3)=false:=by rw [h4];rfl
 have e4:(x.kind ==4)=true:=by rw [h4];rfl
 rw [if_neg (by rw [h4];decide),if_neg (by rw [h4];decide),if_neg (by rw [h4];decide),if_pos h4];clear h4;go_enter func91,ntmps91;go_upto_region 2 with (fail);rw [<-HW.o,<-HQ.o.2,<-HQ.o.1];clear a0 a1 a2 a3 a4 a5 a6;go_upto_region 16 with (fail);have T5:=HN.o.par (0,1);obtain ⟨w5,iB⟩:=dG ((w2.setCell (Qc q6 3) qn).setCell (Qc q6 4) yh);rw [<-iB] at T5;rw [<-iB];have iM:=dL T5;clear iB T5 o0 o1 o2 o3 o4 o5 o6 o7 o8 o9 sY hh sZ z0 z1 z2 z3 z4 z5 z6 g0 g1 g2 g3 g4 g5 g6 c0 c1 c2 c3 c4 c5 c6 f0 f1 f2 f3 f4 f5 f6;obtain ⟨hh,sZ⟩:=(uB.o.below iM.o.below).had_;obtain ⟨c0,c1,c2,c3,c4,c5,c6⟩:=eW iM.o.b6;obtain ⟨r0,r1,r2,r3,r4,r5,r6⟩:=eW iM.o.b4;obtain ⟨g0,g1,g2,g3,g4,g5,g6⟩:=gP iM.o.b4;have z9:=iM.o.last;obtain ⟨t0,t1,t2,t3,t4,t5,t6⟩:=eW z9.b4;have hz0:=z9.below;unfold jJ at hz0 t0 t1 t2 t3 t4 t5 t6;have HZ:=dL hz0;clear z9 hz0;go_region;go_wp2_with fail;exact bodyPost_ret (v:=.tuple #[.agg #[y.id.1,y.id.2,y.dir,qn,yh,y.nm,y.mf],had]) (by simp [results,results91,go_sem,t0,t1,t2,t3,t4,t5,t6]) rfl ⟨rfl,HZ.o.drew⟩
theorem Kk (x:dX) (y:Nd) (had made:Bool) (h3:x.kind=3) (h4:¬ x.kind=4) (g o p m:Nat) (v:Value) (r:Int) (es:List Nd) (w:World) (hd:fP w g o ⟨x,y,had,made⟩) (h:kY w p m v r es) (hm:es.length<=1000000):
  Calls prog 91 #[Qp p,.pointer (some ⟨g,o,none⟩)] w λe w'=>
   e=.returned (.tuple #[nv (fZ es x y had).1,.bool (fZ es x y had).2])/\Below w w w':=by
 obtain ⟨w2,q4,q6,eV,sQ,Ch,hN⟩:=lG y w;have hd2:=hd.below (w':=w2) ((aC _ _).trans (hN.below.mono (aB _)));have HN:=dL hN;have HS:=dL (h.below (w':=w2) hN.below);have HR:=dL hd2;have uB:=dL hd;have yV:=dL h;obtain ⟨a0,a1,a2,a3,a4,a5,a6⟩:=(hd.below (w':=w.alloc (.cells zn 38)) ((aC _ _).alloc (aB _) _)).was_;have HW:=dL (show w2=(w.alloc (.cells #[qn,qn,false,qn,qn,yj,yj] 38)).alloc (.cells #[y.id.1,y.id.2,y.dir,y.par.1,y.par.2,y.nm,y.mf] 38) from eV);have HQ:=dL (And.intro sQ Ch);obtain ⟨o0,o1,o2,o3,o4,o5,o6,o7,o8,o9,sY⟩:=hd2.op_;obtain ⟨hh,sZ⟩:=hd2.had_;obtain ⟨z0,z1,z2,z3,z4,z5,z6⟩:=eW hN.b4;obtain ⟨g0,g1,g2,g3,g4,g5,g6⟩:=gP hN.b4;obtain ⟨c0,c1,c2,c3,c4,c5,c6⟩:=eW hN.b6;obtain ⟨f0,f1,f2,f3,f4,f5,f6⟩:=gP hN.b6;have n46:=hN.ne;have n64:=n46.symm;unfold zn at a0 a1 a2 a3 a4 a5 a6;clear hd hd2 hN h eV sQ Ch;unfold nv fZ;have e4:(x.kind ==4)=false:=by simpa using h4
 have e1:(x.kind ==1)=false:=by rw [h3];rfl
 have e2:(x.kind ==2)=false:=by rw [h3];rfl
 have e3:(x.kind ==3)=true:=by rw [h3];rfl
 rw [if_neg (by rw [h3];decide),if_neg (by rw [h3];decide),if_pos h3];clear h3 h4;go_enter func91,ntmps91;go_upto_region 2 with (fail);rw [<-HW.o,<-HQ.o.2,<-HQ.o.1];clear a0 a1 a2 a3 a4 a5 a6;go_upto_region 13 with (fail);have T5:=HN.o.mf x.mf;obtain ⟨w5,iB⟩:=dG (w2.setCell (Qc q6 6) x.mf);rw [<-iB] at T5;rw [<-iB];have iM:=dL T5;clear iB T5 o0 o1 o2 o3 o4 o5 o6 o7 o8 o9 sY hh sZ z0 z1 z2 z3 z4 z5 z6 g0 g1 g2 g3 g4 g5 g6 c0 c1 c2 c3 c4 c5 c6 f0 f1 f2 f3 f4 f5 f6;obtain ⟨hh,sZ⟩:=(uB.o.below iM.o.below).had_;obtain ⟨c0,c1,c2,c3,c4,c5,c6⟩:=eW iM.o.b6;obtain ⟨r0,r1,r2,r3,r4,r5,r6⟩:=eW iM.o.b4;obtain ⟨g0,g1,g2,g3,g4,g5,g6⟩:=gP iM.o.b4;have z9:=iM.o.last;obtain ⟨t0,t1,t2,t3,t4,t5,t6⟩:=eW z9.b4;obtain ⟨s0,s1,s2,s3,s4,s5,s6⟩:=eW z9.b6;have hz0:=z9.below;unfold jJ at hz0 t0 t1 t2 t3 t4 t5 t6 s0 s1 s2 s3 s4 s5 s6;have HZ:=dL hz0;clear z9 hz0;cases had with
 |false=>
  go_region;all_goals
   go_wp2_with fail;exact bodyPost_ret (v:=.tuple #[.agg #[y.id.1,y.id.2,y.dir,y.par.1,y.par.2,y.nm,x.mf],false]) (by simp [results,results91,go_sem,t0,t1,t2,t3,t4,t5,t6]) rfl ⟨rfl,HZ.o.drew⟩
 |true=>
  go_region;all_goals
   go_wp2_with fail;exact bodyPost_ret (v:=.tuple #[.agg #[y.id.1,y.id.2,y.dir,y.par.1,y.par.2,y.nm,x.mf],(!y.dir)]) (by simp [results,results91,go_sem,t0,t1,t2,t3,t4,t5,t6]) rfl ⟨rfl,HZ.o.drew⟩
theorem Kl (x:dX) (y:Nd) (had made:Bool) (h1:¬ x.kind=1) (h2:¬ x.kind=2) (h3:¬ x.kind=3) (h4:¬ x.kind=4) (g o p m:Nat) (v:Value) (r:Int) (es:List Nd) (w:World) (hd:fP w g o ⟨x,y,had,made⟩) (h:kY w p m v r es) (hm:es.length<=1000000):
  Calls prog 91 #[Qp p,.pointer (some ⟨g,o,none⟩)] w λe w'=>
   e=.returned (.tuple #[nv (fZ es x y had).1,.bool (fZ es x y had).2])/\Below w w w':=by
 obtain ⟨w2,q4,q6,eV,sQ,Ch,hN⟩:=lG y w;have hd2:=hd.below (w':=w2) ((aC _ _).trans (hN.below.mono (aB _)));have HN:=dL hN;have HS:=dL (h.below (w':=w2) hN.below);have HR:=dL hd2;have uB:=dL hd;have yV:=dL h;obtain ⟨a0,a1,a2,a3,a4,a5,a6⟩:=(hd.below (w':=w.alloc (.cells zn 38)) ((aC _ _).alloc (aB _) _)).was_;have HW:=dL (show w2=(w.alloc (.cells #[qn,qn,false,qn,qn,yj,yj] 38)).alloc (.cells #[y.id.1,y.id.2,y.dir,y.par.1,y.par.2,y.nm,y.mf] 38) from eV);have HQ:=dL (And.intro sQ Ch);obtain ⟨o0,o1,o2,o3,o4,o5,o6,o7,o8,o9,sY⟩:=hd2.op_;obtain ⟨hh,sZ⟩:=hd2.had_;obtain ⟨z0,z1,z2,z3,z4,z5,z6⟩:=eW hN.b4;obtain ⟨g0,g1,g2,g3,g4,g5,g6⟩:=gP hN.b4;obtain ⟨c0,c1,c2,c3,c4,c5,c6⟩:=eW hN.b6;obtain ⟨f0,f1,f2,f3,f4,f5,f6⟩:=gP hN.b6;have n46:=hN.ne;have n64:=n46.symm;unfold zn at a0 a1 a2 a3 a4 a5 a6;clear hd hd2 hN h eV sQ Ch;unfold nv fZ;have e1:(x.kind ==1)=false:=by simpa using h1
 have e3:(x.kind ==3)=false:=by simpa using h3
 have e4:(x.kind ==4)=false:=by simpa using h4
 have e2:(x.kind ==2)=false:=by simpa using h2
 rw [if_neg h1,if_neg h2,if_neg h3,if_neg h4];clear h1 h2 h3 h4;have z9:=HN.o.last;obtain ⟨t0,t1,t2,t3,t4,t5,t6⟩:=eW z9.b4;have hz0:=z9.below;unfold jJ at hz0 t0 t1 t2 t3 t4 t5 t6;have HZ:=dL hz0;clear z9 hz0;go_enter func91,ntmps91;go_upto_region 2 with (fail);rw [<-HW.o,<-HQ.o.2,<-HQ.o.1];go_wp2_with fail;exact bodyPost_ret (v:=.tuple #[.agg #[y.id.1,y.id.2,y.dir,y.par.1,y.par.2,y.nm,y.mf],false]) (by simp [results,results91,go_sem,t0,t1,t2,t3,t4,t5,t6]) rfl ⟨rfl,HZ.o⟩
end
section
set_option linter.unusedSimpArgs false
set_option linter.unusedVariables false
open Go.RowKit
attribute [local go_sem] dR dO dS dP
theorem Km (x:dX) (y:Nd) (had made:Bool) (h1:x.kind=1) (h3:¬ x.kind=3) (h4:¬ x.kind=4) (g o p m:Nat) (v:Value) (r:Int) (es:List Nd) (w:World) (hd:fP w g o ⟨x,y,had,made⟩) (h:kY w p m v r es) (hm:es.length<=1000000):
  Calls prog 91 #[Qp p,.pointer (some ⟨g,o,none⟩)] w λe w'=>
   e=.returned (.tuple #[nv (fZ es x y had).1,.bool (fZ es x y had).2])/\Below w w w':=by
 obtain ⟨w2,q4,q6,eV,sQ,Ch,hN⟩:=lG y w;have hd2:=hd.below (w':=w2) ((aC _ _).trans (hN.below.mono (aB _)));have HN:=dL hN;have HS:=dL (h.below (w':=w2) hN.below);have HR:=dL hd2;have uB:=dL hd;have yV:=dL h;obtain ⟨a0,a1,a2,a3,a4,a5,a6⟩:=(hd.below (w':=w.alloc (.cells zn 38)) ((aC _ _).alloc (aB _) _)).was_;have HW:=dL (show w2=(w.alloc (.cells #[qn,qn,false,qn,qn,yj,yj] 38)).alloc (.cells #[y.id.1,y.id.2,y.dir,y.par.1,y.par.2,y.nm,y.mf] 38) from eV);have HQ:=dL (And.intro sQ Ch);obtain ⟨o0,o1,o2,o3,o4,o5,o6,o7,o8,o9,sY⟩:=hd2.op_;obtain ⟨hh,sZ⟩:=hd2.had_;obtain ⟨z0,z1,z2,z3,z4,z5,z6⟩:=eW hN.b4;obtain ⟨g0,g1,g2,g3,g4,g5,g6⟩:=gP hN.b4;obtain ⟨c0,c1,c2,c3,c4,c5,c6⟩:=eW hN.b6;obtain ⟨f0,f1,f2,f3,f4,f5,f6⟩:=gP hN.b6;have n46:=hN.ne;have n64:=n46.symm;unfold zn at a0 a1 a2 a3 a4 a5 a6;clear hd hd2 hN h eV sQ Ch;unfold nv fZ;have e3:(x.kind ==3)=false:=by simpa using h3
 have e4:(x.kind ==4)=false:=by simpa using h4
 have e1:(x.kind ==1)=true:=by rw [h1];rfl
 rw [if_pos h1];obtain ⟨pp,Yd⟩:=dG ((if gM x.par es then x.par else (0,1)));rw [<-Yd];have HP:=dL Yd;clear h1 h3 h4 Yd;go_enter func91,ntmps91;go_upto_region 2 with (fail);rw [<-HW.o,<-HQ.o.2,<-HQ.o.1];clear a0 a1 a2 a3 a4 a5 a6;go_upto_region 4 with (fail);have T5:=(HN.o.put6 ⟨x.node,x.dir,x.par,x.nm,x.mf⟩).drew;refine iJ (C:=λw'=>w'=w2.drew) 26 (by kernel_rfl) (by kernel_rfl) rfl ?_;simp only [dA,List.take_zero,List.drop_succ_cons,bz];repeat (go_big_quiet_step (fail))
 refine wpQuiet_nil ?_;rintro _ rfl;go_wp2_with fail;obtain ⟨w5,iB⟩:=dG ((jJ w2 q6 ⟨x.node,x.dir,x.par,x.nm,x.mf⟩).drew);rw [<-iB] at T5;unfold jJ at iB;simp only at iB;rw [<-iB];have iM:=dL T5;clear iB T5 o0 o1 o2 o3 o4 o5 o6 o9 sY o7 o8 hh sZ z0 z1 z2 z3 z4 z5 z6 g0 g1 g2 g3 g4 g5 g6 c0 c1 c2 c3 c4 c5 c6 f0 f1 f2 f3 f4 f5 f6;obtain ⟨_,_,_,_,_,_,_,o7,o8,_,_⟩:=(uB.o.below iM.o.below).op_;go_wp2_with fail;refine (wu x.par p m v r es _ (yV.o.below iM.o.below)).mono ?_;rintro e w6 ⟨rfl,jr⟩;have oA:=dL (iM.o.after jr);clear jr o7 o8;cases ht:gM x.par es with
 |true=>
  obtain ⟨hh,sZ⟩:=(uB.o.below oA.o.below).had_;obtain ⟨c0,c1,c2,c3,c4,c5,c6⟩:=eW oA.o.b6;obtain ⟨r0,r1,r2,r3,r4,r5,r6⟩:=eW oA.o.b4;obtain ⟨g0,g1,g2,g3,g4,g5,g6⟩:=gP oA.o.b4;have z9:=oA.o.last;obtain ⟨t0,t1,t2,t3,t4,t5,t6⟩:=eW z9.b4;have hz0:=z9.below;unfold jJ at hz0 t0 t1 t2 t3 t4 t5 t6;have HZ:=dL hz0;have RE:=dL ht;clear z9 hz0 ht;go_upto_region 7 with (fail);go_region;go_wp2_with fail;exact bodyPost_ret (v:=.tuple #[.agg #[x.node.1,x.node.2,x.dir,x.par.1,x.par.2,x.nm,x.mf],(!had)]) (by simp [results,results91,go_sem,t0,t1,t2,t3,t4,t5,t6]) rfl ⟨by rw [HP.o,RE.o];rfl,HZ.o.drew⟩
 |false=>
  obtain ⟨f0,f1,f2,f3,f4,f5,f6⟩:=gP oA.o.b6;obtain ⟨c0,c1,c2,c3,c4,c5,c6⟩:=eW oA.o.b6;have RE:=dL ht;clear ht;go_upto_region 7 with (fail);have T7:=oA.o.par (0,1);obtain ⟨w7,mQ⟩:=dG ((w6.setCell (Qc q6 3) qn).setCell (Qc q6 4) yh);rw [<-mQ] at T7;rw [<-mQ];have tw:=dL T7;clear mQ T7 c0 c1 c2 c3 c4 c5 c6 f0 f1 f2 f3 f4 f5 f6;obtain ⟨hh,sZ⟩:=(uB.o.below tw.o.below).had_;obtain ⟨c0,c1,c2,c3,c4,c5,c6⟩:=eW tw.o.b6;obtain ⟨r0,r1,r2,r3,r4,r5,r6⟩:=eW tw.o.b4;obtain ⟨g0,g1,g2,g3,g4,g5,g6⟩:=gP tw.o.b4;have z9:=tw.o.last;obtain ⟨t0,t1,t2,t3,t4,t5,t6⟩:=eW z9.b4;have hz0:=z9.below;unfold jJ at hz0 t0 t1 t2 t3 t4 t5 t6;have HZ:=dL hz0;clear z9 hz0;go_region;go_wp2_with fail;exact bodyPost_ret (v:=.tuple #[.agg #[x.node.1,x.node.2,x.dir,qn,yh,x.nm,x.mf],(!had)]) (by simp [results,results91,go_sem,t0,t1,t2,t3,t4,t5,t6]) rfl ⟨by rw [HP.o,RE.o];rfl,HZ.o.drew⟩
set_option linter.unusedSimpArgs false
set_option linter.unusedVariables false
open Go.RowKit
attribute [local go_sem] dR dO dS dP
theorem SP {B q4 q6:Nat} {w0:World} {z y:Nd} {x:dX} {y0:Nd} {made:Bool} {g o:Nat} (W:World) (had:Bool) (h:Nx B q4 q6 w0 W z ⟨y.id,y.dir,x.par,x.nm,y.mf⟩) (hr:fP W g o ⟨x,y0,had,made⟩):
  W.cell? q6=y.id.1/\W.cell? (Qc q6 1)=y.id.2/\W.cell? (Qc q6 2)=y.dir/\W.cell? (Qc q6 3)=x.par.1/\W.cell? (Qc q6 4)=x.par.2/\W.cell? (Qc q6 5)=x.nm/\W.cell? (Qc q6 6)=y.mf/\
     W.cell? ⟨g,o+4,none⟩=x.node.1/\W.cell? ⟨g,o+5,none⟩=x.node.2/\W.cell? ⟨g,o+7,none⟩=x.par.1/\W.cell? ⟨g,o+8,none⟩=x.par.2/\W.cell? ⟨g,o+18,none⟩=had:=
 ⟨h.b6.cell 0,h.b6.cell 1,h.b6.cell 2,h.b6.cell 3,h.b6.cell 4,h.b6.cell 5,h.b6.cell 6,hr.2 4 _ rfl,hr.2 5 _ rfl,hr.2 7 _ rfl,hr.2 8 _ rfl,hr.2 18 _ rfl⟩
theorem Kn (x:dX) (y:Nd) (had made:Bool) (h2:x.kind=2) (g o p m:Nat) (v:Value) (r:Int) (es:List Nd) (w:World) (hd:fP w g o ⟨x,y,had,made⟩) (h:kY w p m v r es) (hm:es.length<=1000000):
  Calls prog 91 #[Qp p,.pointer (some ⟨g,o,none⟩)] w λe w'=>
   e=.returned (.tuple #[nv (fZ es x y had).1,.bool (fZ es x y had).2])/\Below w w w':=by
 obtain ⟨w2,q4,q6,eV,sQ,Ch,hN⟩:=lG y w;have hd2:=hd.below (w':=w2) ((aC _ _).trans (hN.below.mono (aB _)));have HN:=dL hN;have HS:=dL (h.below (w':=w2) hN.below);have HR:=dL hd2;have uB:=dL hd;have yV:=dL h;obtain ⟨a0,a1,a2,a3,a4,a5,a6⟩:=(hd.below (w':=w.alloc (.cells zn 38)) ((aC _ _).alloc (aB _) _)).was_;have HW:=dL (show w2=(w.alloc (.cells #[qn,qn,false,qn,qn,yj,yj] 38)).alloc (.cells #[y.id.1,y.id.2,y.dir,y.par.1,y.par.2,y.nm,y.mf] 38) from eV);have HQ:=dL (And.intro sQ Ch);obtain ⟨o0,o1,o2,o3,o4,o5,o6,o7,o8,o9,sY⟩:=hd2.op_;obtain ⟨hh,sZ⟩:=hd2.had_;obtain ⟨z0,z1,z2,z3,z4,z5,z6⟩:=eW hN.b4;obtain ⟨g0,g1,g2,g3,g4,g5,g6⟩:=gP hN.b4;obtain ⟨c0,c1,c2,c3,c4,c5,c6⟩:=eW hN.b6;obtain ⟨f0,f1,f2,f3,f4,f5,f6⟩:=gP hN.b6;have n46:=hN.ne;have n64:=n46.symm;unfold zn at a0 a1 a2 a3 a4 a5 a6;clear hd hd2 hN h eV sQ Ch;unfold nv fZ;have e1:(x.kind ==1)=false:=by rw [h2];rfl
 have e2:(x.kind ==2)=true:=by rw [h2];rfl
 rw [if_neg (by rw [h2];decide),if_pos h2];clear h2;obtain ⟨tk,htk⟩:=dG (gM x.par es);obtain ⟨bl,jW⟩:=dG (belowP es (es.length+1) x.par x.node);have ug:=dL (λ(w':World) (h':kY w' p m v r es)=>wu x.par p m v r es w' h');have oO:=dL (λ(w':World) (h':kY w' p m v r es)=>KF x.par x.node p m v r es w' h' hm);rw [<-htk] at ug;rw [<-jW] at oO;rw [<-htk,<-jW];unfold sv at ug oO;clear htk jW;go_enter func91,ntmps91;go_upto_region 2 with (fail);rw [<-HW.o,<-HQ.o.2,<-HQ.o.1];clear a0 a1 a2 a3 a4 a5 a6;go_upto_region 9 with (fail);have T5:=((HN.o.par x.par).nm x.nm).drew;clear o0 o1 o2 o3 o6 o4 o5 sZ hh z0 z1 z2 z3 z4 z5 z6 g0 g1 g2 g3 g4 g5 g6 sY;go_region;have iM:dK (Nx w q4 q6 w (((w2.setCell (Qc q6 3) x.par.1).setCell (Qc q6 4) x.par.2).setCell (Qc q6 5) x.nm).drew nd0 ⟨y.id,y.dir,x.par,x.nm,y.mf⟩):=dL T5;obtain ⟨w5,iB⟩:=dG ((((w2.setCell (Qc q6 3) x.par.1).setCell (Qc q6 4) x.par.2).setCell (Qc q6 5) x.nm).drew);rw [<-iB] at iM;rw [<-iB];clear iB T5 o7 o8 o9 c0 c1 c2 c3 c4 c5 c6 f0 f1 f2 f3 f4 f5 f6;have k0:∀u:eE w5,u.wd.cell? q6=y.id.1:=λu=>u.cell (iM.o.b6.cell 0)
 have k1:∀u:eE w5,u.wd.cell? (Qc q6 1)=y.id.2:=λu=>u.cell (iM.o.b6.cell 1)
 have k2:∀u:eE w5,u.wd.cell? (Qc q6 2)=y.dir:=λu=>u.cell (iM.o.b6.cell 2)
 have k3:∀u:eE w5,u.wd.cell? (Qc q6 3)=x.par.1:=λu=>u.cell (iM.o.b6.cell 3)
 have k4:∀u:eE w5,u.wd.cell? (Qc q6 4)=x.par.2:=λu=>u.cell (iM.o.b6.cell 4)
 have k5:∀u:eE w5,u.wd.cell? (Qc q6 5)=x.nm:=λu=>u.cell (iM.o.b6.cell 5)
 have k6:∀u:eE w5,u.wd.cell? (Qc q6 6)=y.mf:=λu=>u.cell (iM.o.b6.cell 6)
 have za:=uB.o.below iM.o.below;have j4:∀u:eE w5,u.wd.cell? ⟨g,o+4,none⟩=x.node.1:=λu=>(za.below u.below).2 4 _ rfl
 have j5:∀u:eE w5,u.wd.cell? ⟨g,o+5,none⟩=x.node.2:=λu=>(za.below u.below).2 5 _ rfl
 have j7:∀u:eE w5,u.wd.cell? ⟨g,o+7,none⟩=x.par.1:=λu=>(za.below u.below).2 7 _ rfl
 have j8:∀u:eE w5,u.wd.cell? ⟨g,o+8,none⟩=x.par.2:=λu=>(za.below u.below).2 8 _ rfl
 have jh:∀u:eE w5,u.wd.cell? ⟨g,o+18,none⟩=had:=λu=>(za.below u.below).2 18 _ rfl
 have ct:∀u:eE w5,Calls prog 149 #[Qp p,.agg #[x.par.1,x.par.2]] u.wd λe w'=>e=.returned tk/\Below u.wd u.wd w':=λu=>ug.o u.wd ((yV.o.below iM.o.below).below u.below)
 have cb:∀u:eE w5,Calls prog 150 #[Qp p,.agg #[x.par.1,x.par.2],.agg #[x.node.1,x.node.2]] u.wd λe w'=>e=.returned bl/\Below u.wd u.wd w':=λu=>oO.o u.wd ((yV.o.below iM.o.below).below u.below)
 have Hct:=dL ct;have Hcb:=dL cb;clear za ct cb;cases had with
 |false=>
   go_upto_region 10 with (fail);clear k0 k1 k2 k3 k4 k5 k6 j4 j5 j7 j8 jh;obtain ⟨r0,r1,r2,r3,r4,r5,r6⟩:=eW iM.o.b4;obtain ⟨g0,g1,g2,g3,g4,g5,g6⟩:=gP iM.o.b4;refine wp_region_noPanic ?_;refine wp_region_held_drew (S:=λw'=>w'.cell? q6=y.id.1/\w'.cell? (Qc q6 1)=y.id.2/\w'.cell? (Qc q6 2)=y.dir/\w'.cell? (Qc q6 3)=x.par.1/\w'.cell? (Qc q6 4)=x.par.2/\w'.cell? (Qc q6 5)=x.nm/\w'.cell? (Qc q6 6)=y.mf/\
     w'.cell? ⟨g,o+4,none⟩=x.node.1/\w'.cell? ⟨g,o+5,none⟩=x.node.2/\w'.cell? ⟨g,o+7,none⟩=x.par.1/\w'.cell? ⟨g,o+8,none⟩=x.par.2/\w'.cell? ⟨g,o+18,none⟩=false) (by kernel_rfl) (SP _ false iM.o.drew (uB.o.below iM.o.drew.below)) (λdZ=>?_)
   refine taken 0 (v:=?_) rfl (by kernel_rfl) (λ_ _ _ h=>h) dZ (by first|(with_reducible rfl)|kernel_rfl) ?_ ?_
   rotate_left
   ·(intro w fO;(try dsimp only at fO);go_simp;first|done|with_reducible rfl)
   (try simp only [Act.put,aL,aJ,aK,aH,aF,aG])
   refine taken 1 (v:=?_) rfl (by kernel_rfl) (λ_ _ _ h=>h) dZ (by first|(with_reducible rfl)|kernel_rfl) ?_ ?_
   rotate_left
   ·(intro w fO;(try dsimp only at fO);go_simp;first|done|with_reducible rfl)
   (try simp only [Act.put,aL,aJ,aK,aH,aF,aG])
   refine taken 2 (v:=?_) rfl (by kernel_rfl) (λ_ _ _ h=>h) dZ (by first|(with_reducible rfl)|kernel_rfl) ?_ ?_
   rotate_left
   ·(intro w fO;(try dsimp only at fO);go_simp;first|done|with_reducible rfl)
   (try simp only [Act.put,aL,aJ,aK,aH,aF,aG])
   refine taken 3 (v:=?_) rfl (by kernel_rfl) (λ_ _ _ h=>h) dZ (by first|(with_reducible rfl)|kernel_rfl) ?_ ?_
   rotate_left
   ·(intro w fO;(try dsimp only at fO);go_simp;first|done|with_reducible rfl)
   (try simp only [Act.put,aL,aJ,aK,aH,aF,aG])
   refine taken 4 (v:=?_) rfl (by kernel_rfl) (λ_ _ _ h=>h) dZ (by first|(with_reducible rfl)|kernel_rfl) ?_ ?_
   rotate_left
   ·(intro w fO;(try dsimp only at fO);go_simp;first|done|with_reducible rfl)
   (try simp only [Act.put,aL,aJ,aK,aH,aF,aG])
   refine taken 5 (v:=?_) rfl (by kernel_rfl) (λ_ _ _ h=>h) dZ (by first|(with_reducible rfl)|kernel_rfl) ?_ ?_
   rotate_left
   ·(intro w fO;(try dsimp only at fO);go_simp;first|done|with_reducible rfl)
   (try simp only [Act.put,aL,aJ,aK,aH,aF,aG])
   refine eU 6 rfl (by kernel_rfl) (λ_ _ _ h=>h) dZ (by kernel_rfl) ?_
   (try simp only [Act.put,aL,aJ,aK,aH,aF,aG])
   refine eU 7 rfl (by kernel_rfl) (λ_ _ _ h=>h) dZ (by kernel_rfl) ?_
   (try simp only [Act.put,aL,aJ,aK,aH,aF,aG])
   refine eU 8 rfl (by kernel_rfl) (λ_ _ _ h=>h) dZ (by kernel_rfl) ?_
   (try simp only [Act.put,aL,aJ,aK,aH,aF,aG])
   refine eU 9 rfl (by kernel_rfl) (λ_ _ _ h=>h) dZ (by kernel_rfl) ?_
   (try simp only [Act.put,aL,aJ,aK,aH,aF,aG])
   refine eU 10 rfl (by kernel_rfl) (λ_ _ _ h=>h) dZ (by kernel_rfl) ?_
   (try simp only [Act.put,aL,aJ,aK,aH,aF,aG])
   refine eU 11 rfl (by kernel_rfl) (λ_ _ _ h=>h) dZ (by kernel_rfl) ?_
   (try simp only [Act.put,aL,aJ,aK,aH,aF,aG])
   refine eU 12 rfl (by kernel_rfl) (λ_ _ _ h=>h) dZ (by kernel_rfl) ?_
   (try simp only [Act.put,aL,aJ,aK,aH,aF,aG])
   refine taken 13 (v:=?_) rfl (by kernel_rfl) (λ_ _ _ h=>h) dZ (by first|(with_reducible rfl)|kernel_rfl) ?_ ?_
   rotate_left
   ·(intro w fO;(try dsimp only at fO);go_simp;first|done|with_reducible rfl)
   (try simp only [Act.put,aL,aJ,aK,aH,aF,aG])
   refine taken 14 (v:=?_) rfl (by kernel_rfl) (λ_ _ _ h=>h) dZ (by first|(with_reducible rfl)|kernel_rfl) ?_ ?_
   rotate_left
   ·(intro w fO;(try dsimp only at fO);go_simp;first|done|with_reducible rfl)
   (try simp only [Act.put,aL,aJ,aK,aH,aF,aG])
   refine eU 15 rfl (by kernel_rfl) (λ_ _ _ h=>h) dZ (by kernel_rfl) ?_
   (try simp only [Act.put,aL,aJ,aK,aH,aF,aG])
   refine eU 16 rfl (by kernel_rfl) (λ_ _ _ h=>h) dZ (by kernel_rfl) ?_
   (try simp only [Act.put,aL,aJ,aK,aH,aF,aG])
   refine eU 17 rfl (by kernel_rfl) (λ_ _ _ h=>h) dZ (by kernel_rfl) ?_
   (try simp only [Act.put,aL,aJ,aK,aH,aF,aG])
   refine eU 18 rfl (by kernel_rfl) (λ_ _ _ h=>h) dZ (by kernel_rfl) ?_
   (try simp only [Act.put,aL,aJ,aK,aH,aF,aG])
   refine eU 19 rfl (by kernel_rfl) (λ_ _ _ h=>h) dZ (by kernel_rfl) ?_
   (try simp only [Act.put,aL,aJ,aK,aH,aF,aG])
   refine eU 20 rfl (by kernel_rfl) (λ_ _ _ h=>h) dZ (by kernel_rfl) ?_
   (try simp only [Act.put,aL,aJ,aK,aH,aF,aG])
   refine eU 21 rfl (by kernel_rfl) (λ_ _ _ h=>h) dZ (by kernel_rfl) ?_
   (try simp only [Act.put,aL,aJ,aK,aH,aF,aG])
   refine eU 22 rfl (by kernel_rfl) (λ_ _ _ h=>h) dZ (by kernel_rfl) ?_
   (try simp only [Act.put,aL,aJ,aK,aH,aF,aG])
   refine eU 23 rfl (by kernel_rfl) (λ_ _ _ h=>h) dZ (by kernel_rfl) ?_
   (try simp only [Act.put,aL,aJ,aK,aH,aF,aG])
   refine eU 24 rfl (by kernel_rfl) (λ_ _ _ h=>h) dZ (by kernel_rfl) ?_
   (try simp only [Act.put,aL,aJ,aK,aH,aF,aG])
   refine eU 25 rfl (by kernel_rfl) (λ_ _ _ h=>h) dZ (by kernel_rfl) ?_
   (try simp only [Act.put,aL,aJ,aK,aH,aF,aG])
   refine eU 26 rfl (by kernel_rfl) (λ_ _ _ h=>h) dZ (by kernel_rfl) ?_
   (try simp only [Act.put,aL,aJ,aK,aH,aF,aG])
   refine eU 27 rfl (by kernel_rfl) (λ_ _ _ h=>h) dZ (by kernel_rfl) ?_
   (try simp only [Act.put,aL,aJ,aK,aH,aF,aG])
   refine taken 28 (v:=?_) rfl (by kernel_rfl) (λ_ _ _ h=>h) dZ (by first|(with_reducible rfl)|kernel_rfl) ?_ ?_
   rotate_left
   ·(intro w fO;(try dsimp only at fO);go_simp;first|done|with_reducible rfl)
   (try simp only [Act.put,aL,aJ,aK,aH,aF,aG])
   refine ji 29 (by kernel_rfl) rfl (λK hK=>?_);go_simp;refine hK.out _ _ ((SP _ false iM.o.last.drew (uB.o.below iM.o.last.drew.below))) (λdZ=>?_);clear hK K
   (try simp only [Act.put,aL,aJ,aK,aH,aF,aG])
   refine taken 30 (v:=?_) rfl (by kernel_rfl) (λ_ _ _ h=>h) dZ (by first|(with_reducible rfl)|kernel_rfl) ?_ ?_
   rotate_left
   ·(intro w fO;(try dsimp only at fO);go_simp;first|done|with_reducible rfl)
   (try simp only [Act.put,aL,aJ,aK,aH,aF,aG])
   refine wpAnyH_done (by kernel_rfl) ?_ _;refine NoPanic.normal ?_;have z9:=iM.o.last;obtain ⟨t0,t1,t2,t3,t4,t5,t6⟩:=eW z9.b4;have hz0:=z9.below;unfold jJ at hz0 t0 t1 t2 t3 t4 t5 t6;have HZ:=dL hz0;clear z9 hz0 r0 r1 r2 r3 r4 r5 r6 g0 g1 g2 g3 g4 g5 g6;go_wp2_with fail;exact bodyPost_ret (v:=.tuple #[.agg #[y.id.1,y.id.2,y.dir,x.par.1,x.par.2,x.nm,y.mf],false]) (by simp [results,results91,go_sem,t0,t1,t2,t3,t4,t5,t6]) rfl ⟨by simp,HZ.o.drew⟩
 |true=>
  cases tk with
  |false=>
   go_upto_region 10 with (fail);clear k0 k1 k2 k3 k4 k5 k6 j4 j5 j7 j8 jh;refine wp_region_noPanic ?_;refine wp_region_held_drew (S:=λw'=>w'.cell? q6=y.id.1/\w'.cell? (Qc q6 1)=y.id.2/\w'.cell? (Qc q6 2)=y.dir/\w'.cell? (Qc q6 3)=x.par.1/\w'.cell? (Qc q6 4)=x.par.2/\w'.cell? (Qc q6 5)=x.nm/\w'.cell? (Qc q6 6)=y.mf/\
     w'.cell? ⟨g,o+4,none⟩=x.node.1/\w'.cell? ⟨g,o+5,none⟩=x.node.2/\w'.cell? ⟨g,o+7,none⟩=x.par.1/\w'.cell? ⟨g,o+8,none⟩=x.par.2/\w'.cell? ⟨g,o+18,none⟩=true) (by kernel_rfl) (SP _ true iM.o.drew (uB.o.below iM.o.drew.below)) (λdZ=>?_)
   refine taken 0 (v:=?_) rfl (by kernel_rfl) (λ_ _ _ h=>h) dZ (by first|(with_reducible rfl)|kernel_rfl) ?_ ?_
   rotate_left
   ·(intro w fO;(try dsimp only at fO);go_simp;first|done|with_reducible rfl)
   (try simp only [Act.put,aL,aJ,aK,aH,aF,aG])
   refine taken 1 (v:=?_) rfl (by kernel_rfl) (λ_ _ _ h=>h) dZ (by first|(with_reducible rfl)|kernel_rfl) ?_ ?_
   rotate_left
   ·(intro w fO;(try dsimp only at fO);go_simp;first|done|with_reducible rfl)
   (try simp only [Act.put,aL,aJ,aK,aH,aF,aG])
   refine taken 2 (v:=?_) rfl (by kernel_rfl) (λ_ _ _ h=>h) dZ (by first|(with_reducible rfl)|kernel_rfl) ?_ ?_
   rotate_left
   ·(intro w fO;(try dsimp only at fO);go_simp;first|done|with_reducible rfl)
   (try simp only [Act.put,aL,aJ,aK,aH,aF,aG])
   refine taken 3 (v:=?_) rfl (by kernel_rfl) (λ_ _ _ h=>h) dZ (by first|(with_reducible rfl)|kernel_rfl) ?_ ?_
   rotate_left
   ·(intro w fO;(try dsimp only at fO);go_simp;first|done|with_reducible rfl)
   (try simp only [Act.put,aL,aJ,aK,aH,aF,aG])
   refine taken 4 (v:=?_) rfl (by kernel_rfl) (λ_ _ _ h=>h) dZ (by first|(with_reducible rfl)|kernel_rfl) ?_ ?_
   rotate_left
   ·(intro w fO;(try dsimp only at fO);go_simp;first|done|with_reducible rfl)
   (try simp only [Act.put,aL,aJ,aK,aH,aF,aG])
   refine taken 5 (v:=?_) rfl (by kernel_rfl) (λ_ _ _ h=>h) dZ (by first|(with_reducible rfl)|kernel_rfl) ?_ ?_
   rotate_left
   ·(intro w fO;(try dsimp only at fO);go_simp;first|done|with_reducible rfl)
   (try simp only [Act.put,aL,aJ,aK,aH,aF,aG])
   refine taken 6 (v:=?_) rfl (by kernel_rfl) (λ_ _ _ h=>h) dZ (by first|(with_reducible rfl)|kernel_rfl) ?_ ?_
   rotate_left
   ·(intro w fO;(try dsimp only at fO);go_simp;first|done|with_reducible rfl)
   (try simp only [Act.put,aL,aJ,aK,aH,aF,aG])
   refine taken 7 (v:=?_) rfl (by kernel_rfl) (λ_ _ _ h=>h) dZ (by first|(with_reducible rfl)|kernel_rfl) ?_ ?_
   rotate_left
   ·(intro w fO;(try dsimp only at fO);go_simp;first|done|with_reducible rfl)
   (try simp only [Act.put,aL,aJ,aK,aH,aF,aG])
   refine taken 8 (v:=?_) rfl (by kernel_rfl) (λ_ _ _ h=>h) dZ (by first|(with_reducible rfl)|kernel_rfl) ?_ ?_
   rotate_left
   ·(intro w fO;(try dsimp only at fO);go_simp;first|done|with_reducible rfl)
   (try simp only [Act.put,aL,aJ,aK,aH,aF,aG])
   refine taken 9 (v:=?_) rfl (by kernel_rfl) (λ_ _ _ h=>h) dZ (by first|(with_reducible rfl)|kernel_rfl) ?_ ?_
   rotate_left
   ·(intro w fO;(try dsimp only at fO);go_simp;first|done|with_reducible rfl)
   (try simp only [Act.put,aL,aJ,aK,aH,aF,aG])
   refine taken 10 (v:=?_) rfl (by kernel_rfl) (λ_ _ _ h=>h) dZ (by first|(with_reducible rfl)|kernel_rfl) ?_ ?_
   rotate_left
   ·(intro w fO;(try dsimp only at fO);go_simp;first|done|with_reducible rfl)
   (try simp only [Act.put,aL,aJ,aK,aH,aF,aG])
   refine taken 11 (v:=?_) rfl (by kernel_rfl) (λ_ _ _ h=>h) dZ (by first|(with_reducible rfl)|kernel_rfl) ?_ ?_
   rotate_left
   ·(intro w fO;(try dsimp only at fO);go_simp;first|done|with_reducible rfl)
   (try simp only [Act.put,aL,aJ,aK,aH,aF,aG])
   refine ji 12 (by kernel_rfl) rfl (λK hK=>?_);go_simp;refine (ug.o _ ((yV.o.below iM.o.below).below (aC _ _).drew)).mono ?_;rintro e w6 ⟨rfl,jr⟩;have oA:=dL (iM.o.drew.after jr);obtain ⟨r0,r1,r2,r3,r4,r5,r6⟩:=eW oA.o.b4;obtain ⟨g0,g1,g2,g3,g4,g5,g6⟩:=gP oA.o.b4;clear jr;refine hK.out _ _ (SP _ true oA.o (uB.o.below oA.o.below)) (λdZ=>?_);clear hK K
   (try simp only [Act.put,aL,aJ,aK,aH,aF,aG])
   refine taken 13 (v:=?_) rfl (by kernel_rfl) (λ_ _ _ h=>h) dZ (by first|(with_reducible rfl)|kernel_rfl) ?_ ?_
   rotate_left
   ·(intro w fO;(try dsimp only at fO);go_simp;first|done|with_reducible rfl)
   (try simp only [Act.put,aL,aJ,aK,aH,aF,aG])
   refine taken 14 (v:=?_) rfl (by kernel_rfl) (λ_ _ _ h=>h) dZ (by first|(with_reducible rfl)|kernel_rfl) ?_ ?_
   rotate_left
   ·(intro w fO;(try dsimp only at fO);go_simp;first|done|with_reducible rfl)
   (try simp only [Act.put,aL,aJ,aK,aH,aF,aG])
   refine eU 15 rfl (by kernel_rfl) (λ_ _ _ h=>h) dZ (by kernel_rfl) ?_
   (try simp only [Act.put,aL,aJ,aK,aH,aF,aG])
   refine eU 16 rfl (by kernel_rfl) (λ_ _ _ h=>h) dZ (by kernel_rfl) ?_
   (try simp only [Act.put,aL,aJ,aK,aH,aF,aG])
   refine eU 17 rfl (by kernel_rfl) (λ_ _ _ h=>h) dZ (by kernel_rfl) ?_
   (try simp only [Act.put,aL,aJ,aK,aH,aF,aG])
   refine eU 18 rfl (by kernel_rfl) (λ_ _ _ h=>h) dZ (by kernel_rfl) ?_
   (try simp only [Act.put,aL,aJ,aK,aH,aF,aG])
   refine eU 19 rfl (by kernel_rfl) (λ_ _ _ h=>h) dZ (by kernel_rfl) ?_
   (try simp only [Act.put,aL,aJ,aK,aH,aF,aG])
   refine eU 20 rfl (by kernel_rfl) (λ_ _ _ h=>h) dZ (by kernel_rfl) ?_
   (try simp only [Act.put,aL,aJ,aK,aH,aF,aG])
   refine eU 21 rfl (by kernel_rfl) (λ_ _ _ h=>h) dZ (by kernel_rfl) ?_
   (try simp only [Act.put,aL,aJ,aK,aH,aF,aG])
   refine eU 22 rfl (by kernel_rfl) (λ_ _ _ h=>h) dZ (by kernel_rfl) ?_
   (try simp only [Act.put,aL,aJ,aK,aH,aF,aG])
   refine eU 23 rfl (by kernel_rfl) (λ_ _ _ h=>h) dZ (by kernel_rfl) ?_
   (try simp only [Act.put,aL,aJ,aK,aH,aF,aG])
   refine eU 24 rfl (by kernel_rfl) (λ_ _ _ h=>h) dZ (by kernel_rfl) ?_
   (try simp only [Act.put,aL,aJ,aK,aH,aF,aG])
   refine eU 25 rfl (by kernel_rfl) (λ_ _ _ h=>h) dZ (by kernel_rfl) ?_
   (try simp only [Act.put,aL,aJ,aK,aH,aF,aG])
   refine eU 26 rfl (by kernel_rfl) (λ_ _ _ h=>h) dZ (by kernel_rfl) ?_
   (try simp only [Act.put,aL,aJ,aK,aH,aF,aG])
   refine eU 27 rfl (by kernel_rfl) (λ_ _ _ h=>h) dZ (by kernel_rfl) ?_
   (try simp only [Act.put,aL,aJ,aK,aH,aF,aG])
   refine taken 28 (v:=?_) rfl (by kernel_rfl) (λ_ _ _ h=>h) dZ (by first|(with_reducible rfl)|kernel_rfl) ?_ ?_
   rotate_left
   ·(intro w fO;(try dsimp only at fO);go_simp;first|done|with_reducible rfl)
   (try simp only [Act.put,aL,aJ,aK,aH,aF,aG])
   refine ji 29 (by kernel_rfl) rfl (λK hK=>?_);go_simp;refine hK.out _ _ ((SP _ true oA.o.last (uB.o.below oA.o.last.below))) (λdZ=>?_);clear hK K
   (try simp only [Act.put,aL,aJ,aK,aH,aF,aG])
   refine taken 30 (v:=?_) rfl (by kernel_rfl) (λ_ _ _ h=>h) dZ (by first|(with_reducible rfl)|kernel_rfl) ?_ ?_
   rotate_left
   ·(intro w fO;(try dsimp only at fO);go_simp;first|done|with_reducible rfl)
   (try simp only [Act.put,aL,aJ,aK,aH,aF,aG])
   refine wpAnyH_done (by kernel_rfl) ?_ _;refine NoPanic.normal ?_;have z9:=oA.o.last;obtain ⟨t0,t1,t2,t3,t4,t5,t6⟩:=eW z9.b4;have hz0:=z9.below;unfold jJ at hz0 t0 t1 t2 t3 t4 t5 t6;have HZ:=dL hz0;clear z9 hz0 r0 r1 r2 r3 r4 r5 r6 g0 g1 g2 g3 g4 g5 g6;go_wp2_with fail;exact bodyPost_ret (v:=.tuple #[.agg #[y.id.1,y.id.2,y.dir,x.par.1,x.par.2,x.nm,y.mf],false]) (by simp [results,results91,go_sem,t0,t1,t2,t3,t4,t5,t6]) rfl ⟨by simp,HZ.o⟩
  |true=>
   go_upto_region 10 with (fail);clear k0 k1 k2 k3 k4 k5 k6 j4 j5 j7 j8 jh;go_region_held3 (λw'=>w'.cell? q6=y.id.1/\w'.cell? (Qc q6 1)=y.id.2/\w'.cell? (Qc q6 2)=y.dir/\w'.cell? (Qc q6 3)=x.par.1/\w'.cell? (Qc q6 4)=x.par.2/\w'.cell? (Qc q6 5)=x.nm/\w'.cell? (Qc q6 6)=y.mf/\
     w'.cell? ⟨g,o+4,none⟩=x.node.1/\w'.cell? ⟨g,o+5,none⟩=x.node.2/\w'.cell? ⟨g,o+7,none⟩=x.par.1/\w'.cell? ⟨g,o+8,none⟩=x.par.2/\w'.cell? ⟨g,o+18,none⟩=true)
    (first|with_reducible exact SP _ true tw.o (uB.o.below tw.o.below)|exact SP _ true tw.o.last (uB.o.below tw.o.last.below)|with_reducible exact SP _ true oA.o (uB.o.below oA.o.below)|exact SP _ true iM.o.drew (uB.o.below iM.o.drew.below))
    (first
     |(go_at_call 149;refine (ug.o _ ((yV.o.below iM.o.below).below (aC _ _).drew)).mono ?_;rintro e w6 ⟨rfl,jr⟩;have oA:=dL (iM.o.drew.after jr);clear jr)
     |(go_at_call 150;refine (oO.o _ (yV.o.below oA.o.below)).mono ?_;rintro e w7 ⟨rfl,lq⟩;have tw:=dL (oA.o.after lq);obtain ⟨r0,r1,r2,r3,r4,r5,r6⟩:=eW tw.o.b4;obtain ⟨g0,g1,g2,g3,g4,g5,g6⟩:=gP tw.o.b4;clear lq))
   have z9:=tw.o.last;obtain ⟨t0,t1,t2,t3,t4,t5,t6⟩:=eW z9.b4;have hz0:=z9.below;unfold jJ at hz0 t0 t1 t2 t3 t4 t5 t6;have HZ:=dL hz0;clear z9 hz0 r0 r1 r2 r3 r4 r5 r6 g0 g1 g2 g3 g4 g5 g6;go_wp2_with fail;exact bodyPost_ret (v:=.tuple #[.agg #[y.id.1,y.id.2,y.dir,x.par.1,x.par.2,x.nm,y.mf],(!bl)]) (by simp [results,results91,go_sem,t0,t1,t2,t3,t4,t5,t6]) rfl ⟨by simp,HZ.o⟩
theorem O2 (d:Rec) (g o p m:Nat) (v:Value) (r:Int) (es:List Nd) (w:World) (hd:fP w g o d) (h:kY w p m v r es) (hm:es.length<=1000000):
  Calls prog 91 #[Qp p,.pointer (some ⟨g,o,none⟩)] w λe w'=>
   e=.returned (.tuple #[nv (fZ es d.op d.was d.had).1,.bool (fZ es d.op d.was d.had).2])/\Below w w w':=by
 obtain ⟨x,y,had,made⟩:=d;by_cases h4:x.kind=4
 ·exact Kj x y had made h4 g o p m v r es w hd h hm
 by_cases h3:x.kind=3
 ·exact Kk x y had made h3 h4 g o p m v r es w hd h hm
 by_cases h1:x.kind=1
 ·exact Km x y had made h1 h3 h4 g o p m v r es w hd h hm
 by_cases h2:x.kind=2
 ·exact Kn x y had made h2 g o p m v r es w hd h hm
 exact Kl x y had made h1 h2 h3 h4 g o p m v r es w hd h hm
end
end Go.Proofs.YtgdaahffmcfhpaaGreatDoor
