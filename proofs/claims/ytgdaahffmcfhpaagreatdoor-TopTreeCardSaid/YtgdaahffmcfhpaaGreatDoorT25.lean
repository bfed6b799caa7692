/- Lemmas on the way: VT VSn VSm VSo. -/
import Derived.Test.YtgdaahffmcfhpaaGreatDoorT18
import Derived.Test.YtgdaahffmcfhpaaGreatDoorT24
import Derived.Test.YtgdaahffmcfhpaaGreatDoorT00
set_option maxRecDepth 100000
set_option maxHeartbeats 8000000
namespace Go.Proofs.YtgdaahffmcfhpaaGreatDoor
open Tryz
section
set_option linter.unusedSimpArgs false
set_option linter.unusedVariables false
open Go.RowKit
attribute [local go_sem] dO dL dQ dM
theorem F9 {xs:List Nd} {x:dV} {k:Nat} (hk:k < xs.length) (h:fH (en x.node) xs=k):
  uR xs x=if x.kind=1 then xs else if (fe xs x xs[k]).2 then xs.set k (fe xs x xs[k]).1 else xs:=by
 have h1:xs.findIdx? (en x.node)=some k:=by
  unfold fH at h;cases hf:xs.findIdx? (en x.node) with
  |none=>rw [hf] at h;have h:(-1:Int)=k:=h;omega
  |some i=>rw [hf] at h;have h:(i:Int)=k:=h;congr 1;omega
 unfold uR;rw [h1];simp only [QO,List.getD_eq_getElem?_getD,bf hk,Option.getD_some];by_cases h1:x.kind=1
 ·simp [h1]
 ·simp only [h1,if_false]
  by_cases h2:(fe xs x xs[k]).2=true
  ·simp [h2]
  ·simp [h2]
theorem FA {xs:List Nd} {x:dV} (h:fH (en x.node) xs= -1):
  uR xs x=if x.kind=1 then fu xs ⟨x.node,x.dir,if fI x.par xs then x.par else (0,1),x.nm,x.mf⟩ else xs:=by
 have h1:xs.findIdx? (en x.node)=none:=by
  unfold fH at h;cases hf:xs.findIdx? (en x.node) with
  |none=>rfl
  |some i=>rw [hf] at h;have h:(i:Int)= -1:=h;omega
 unfold uR;rw [h1]
def P7 (x:dV):Prop:=x.nm.length<=9223372036854775807/\x.mf.length<=9223372036854775807
theorem tH {xs:List Nd} {x:dV} {y:Nd} (hx:P7 x) (hy:y.nm.length<=9223372036854775807/\y.mf.length<=9223372036854775807):(fe xs x y).1.nm.length<=9223372036854775807/\(fe xs x y).1.mf.length<=9223372036854775807:=by
 unfold fe;by_cases h2:x.kind=2
 ·simp only [h2,if_true];exact ⟨hx.1,hy.2⟩
 by_cases h3:x.kind=3
 ·simp only [h2,h3,if_true,if_false];exact ⟨hy.1,hx.2⟩
 by_cases h4:x.kind=4
 ·simp only [h2,h3,h4,if_true,if_false];exact hy
 ·simp only [h2,h3,h4,if_false];exact hy
theorem sD {xs:List Nd} {y:Nd} (h:Short xs) (hy:y.nm.length<=9223372036854775807/\y.mf.length<=9223372036854775807) (k:Nat):Short (xs.set k y):=by
 intro x hx;rcases List.mem_or_eq_of_mem_set hx with hx|rfl
 ·exact h x hx
 ·exact hy
theorem oG {xs:List Nd} {y:Nd} (h:Short xs) (hy:y.nm.length<=9223372036854775807/\y.mf.length<=9223372036854775807):Short (fu xs y):=AP h hy _
theorem JI {xs:List Nd} {x:dV} (h:Short xs) (hx:P7 x):Short (uR xs x):=by
 rcases gq (en x.node) xs with ⟨k,hk,jQ,_⟩| ⟨jQ,_⟩
 ·rw [F9 hk jQ]
  split
  ·exact h
  ·split
   ·exact sD h (tH hx (h _ (ag hk))) k
   ·exact h
 ·rw [FA jQ]
  split
  ·exact oG h hx
  ·exact h
def n9 (w:World) (g o:Nat) (x:Nd):World:=((((((w.setCell ⟨g,o,none⟩ (.int .i64 x.id.1)).setCell ⟨g,o+1,none⟩ (.int .i64 x.id.2)).setCell ⟨g,o+2,none⟩ (.bool x.dir)).setCell ⟨g,o+3,none⟩ (.int .i64 x.par.1)).setCell ⟨g,o+4,none⟩ (.int .i64 x.par.2)).setCell ⟨g,o+5,none⟩ (.string (bs x.nm))).setCell ⟨g,o+6,none⟩ (.string (bs x.mf))
theorem AR (w:World) (g o:Nat) (x:Nd):n9 w g o x=w.setCells g o (nc x):=rfl
theorem QS (xs:List Nd) (k:Nat) (hk:k < xs.length) (y:Nd):∀j u,(jB (xs.set k y))[j]? =some u->(k*7<=j/\j < k*7+7/\(nc y)[j - k*7]? =some u)\/((j < k*7\/k*7+7<=j)/\(jB xs)[j]? =some u):=by
 intro j u hu;have hj:j < xs.length*7:=by
  rcases aG j (xs.length*7) with h|h
  ·exact h
  ·rw [bI (by rw [iJ,cQ];exact h)] at hu;cases hu
 have hjk:j / 7 < xs.length:=by omega
 have e:j=j / 7*7+j % 7:=by omega
 have h1:=pX (xs.set k y) (j / 7) (j % 7) (by rw [cQ];exact hjk) (Nat.mod_lt _ (by decide));have h2:=pX xs (j / 7) (j % 7) hjk (Nat.mod_lt _ (by decide));rw [<-e] at h1 h2;by_cases h:j / 7=k
 ·subst h
  rw [List.getElem_set_self] at h1;refine .inl ⟨by omega,by omega,?_⟩;rw [show j - j / 7*7=j % 7 by omega,<-h1];exact hu
 ·rw [List.getElem_set_ne (fun e=>h e.symm)] at h1
  exact .inr ⟨by omega,by rw [h2,<-h1];exact hu⟩
theorem Own.set_ {w:World} {B g c n:Nat} {xs:List Nd} (hn:xs.length=n) (h:dN w B 7 (.slice (some ⟨g,0,none⟩) n c) n (jB xs)) (k:Nat) (hk:k < n) (y:Nd):
  dN (n9 w g (k*7) y) B 7 (.slice (some ⟨g,0,none⟩) n c) n (jB (xs.set k y))/\w.grownBy (n9 w g (k*7) y) (some g):=by
 subst hn;rcases h.2 with ⟨h0,_⟩| ⟨g',cap,he,hb,hlt,hnc,hcm,hs,hf,hx⟩
 ·cases h0
 obtain ⟨rfl,rfl⟩:g=g'/\c=cap:=by cases he;exact ⟨rfl,rfl⟩
 have hkc:k*7+7<=c*7:=by omega
 rw [AR];have hl:(nc y).length=7:=rfl;refine ⟨⟨by rw [iJ,cQ],.inr ⟨g,c,rfl,hb,?_,hnc,hcm,fun j hj=>World.isSome_setCells g _ _ _ _ (hs j hj),fun j hj=>by rw [World.frozen?_setCells];exact hf j hj,fun j u hu=>?_⟩⟩,?_⟩
 ·rw [eF];exact hlt
 ·rcases QS xs k hk y j u hu with ⟨h1,h2,h3⟩| ⟨h1,h2⟩
  ·obtain ⟨hj,rfl⟩:=cV.1 h3
   have:=World.cell?_setCells_in g (nc y) (k*7) w (fun i hi=>hs _ (by omega)) (j - k*7) hj
   rwa [show k*7+(j - k*7)=j by omega] at this
  ·rw [World.cell?_setCells_out _ _ _ _ _ (fun _ _=>by show j < _\/_<=j;omega)]
   exact hx j u h2
 ·exact ⟨gx _ _ _ _,ec _ _ _ _,gO _ _ _ _,by rw [eF];exact aB _,fun i hi hne=>World.heap_setCells_other w g _ _ hi (fun e=>hne (by rw [e]))⟩
end
section
set_option linter.unusedSimpArgs false
set_option linter.unusedVariables false
open Go.RowKit
attribute [local go_sem] dO dL dQ dM
structure Rec where
 op:dV
 was:Nd
 had:Bool
 made:Bool
instance:Inhabited Rec:=⟨⟨default,default,false,false⟩⟩
def rc (d:Rec):List Value:=oc d.op++(nc d.was++[.bool d.had,.bool d.made])
def fG (w:World) (g o:Nat) (d:Rec):Prop:=g < w.heap.size/\∀j u,(rc d)[j]? =some u->w.cell? ⟨g,o+j,none⟩=some u
theorem fG.below {w w':World} {g o:Nat} {d:Rec} (h:fG w g o d) (hb:Below w.heap.size w w'):fG w' g o d:=⟨aN h.1 hb.size,fun j u hu=>dP hb h.1 (h.2 j u hu)⟩
theorem fG.op_ {w:World} {g o:Nat} {d:Rec} (h:fG w g o d):w.cell? ⟨g,o,none⟩=some (.int .i64 d.op.st.1)/\w.cell? ⟨g,o+1,none⟩=some (.int .i64 d.op.st.2)/\w.cell? ⟨g,o+2,none⟩=some (.int .i64 d.op.seq)/\w.cell? ⟨g,o+3,none⟩=some (.int .i64 d.op.kind)/\w.cell? ⟨g,o+4,none⟩=some (.int .i64 d.op.node.1)/\w.cell? ⟨g,o+5,none⟩=some (.int .i64 d.op.node.2)/\w.cell? ⟨g,o+6,none⟩=some (.bool d.op.dir)/\w.cell? ⟨g,o+7,none⟩=some (.int .i64 d.op.par.1)/\w.cell? ⟨g,o+8,none⟩=some (.int .i64 d.op.par.2)/\w.cell? ⟨g,o+9,none⟩=some (.string (bs d.op.nm))/\w.cell? ⟨g,o+10,none⟩=some (.string (bs d.op.mf)):=
 ⟨h.2 0 _ rfl,h.2 1 _ rfl,h.2 2 _ rfl,h.2 3 _ rfl,h.2 4 _ rfl,h.2 5 _ rfl,h.2 6 _ rfl,h.2 7 _ rfl,h.2 8 _ rfl,h.2 9 _ rfl,h.2 10 _ rfl⟩
theorem fG.was_ {w:World} {g o:Nat} {d:Rec} (h:fG w g o d):w.cell? ⟨g,o+11,none⟩=some (.int .i64 d.was.id.1)/\w.cell? ⟨g,o+12,none⟩=some (.int .i64 d.was.id.2)/\w.cell? ⟨g,o+13,none⟩=some (.bool d.was.dir)/\w.cell? ⟨g,o+14,none⟩=some (.int .i64 d.was.par.1)/\w.cell? ⟨g,o+15,none⟩=some (.int .i64 d.was.par.2)/\w.cell? ⟨g,o+16,none⟩=some (.string (bs d.was.nm))/\w.cell? ⟨g,o+17,none⟩=some (.string (bs d.was.mf)):=
 ⟨h.2 11 _ rfl,h.2 12 _ rfl,h.2 13 _ rfl,h.2 14 _ rfl,h.2 15 _ rfl,h.2 16 _ rfl,h.2 17 _ rfl⟩
theorem fG.had_ {w:World} {g o:Nat} {d:Rec} (h:fG w g o d):w.cell? ⟨g,o+18,none⟩=some (.bool d.had)/\w.cell? ⟨g,o+19,none⟩=some (.bool d.made):=⟨h.2 18 _ rfl,h.2 19 _ rfl⟩
def fQ (es:List Nd) (x:dV) (y:Nd) (had:Bool):Nd×Bool:=
 if x.kind=1 then (⟨x.node,x.dir,if fI x.par es then x.par else (0,1),x.nm,x.mf⟩,!had)
 else if x.kind=2 then ({ y with par:=x.par,nm:=x.nm },had && fI x.par es && !belowP es (es.length+1) x.par x.node)
 else if x.kind=3 then ({ y with mf:=x.mf },had && !y.dir)
 else if x.kind=4 then ({ y with par:=(0,1) },had)
 else (y,false)
structure Nx (B q4 q6:Nat) (w0 w:World) (z y:Nd):Prop where
 b4:Blk w q4 38 (nc z).toArray
 b6:Blk w q6 38 (nc y).toArray
 below:Below B w0 w
 h4:B<=q4
 h6:B<=q6
 ne:q4≠q6
section
variable {B q4 q6:Nat} {w0 w w':World} {z y:Nd}
theorem Nx.size (h:Nx B q4 q6 w0 w z y):B<=w.heap.size:=ay (Nat.lt_of_le_of_lt h.h4 h.b4.lt)
theorem Nx.after (h:Nx B q4 q6 w0 w z y) (hb:Below w.heap.size w w'):Nx B q4 q6 w0 w' z y:=
 ⟨h.b4.below hb h.b4.lt,h.b6.below hb h.b6.lt,h.below.trans (hb.mono h.size),h.h4,h.h6,h.ne⟩
theorem Nx.drew (h:Nx B q4 q6 w0 w z y):Nx B q4 q6 w0 w.drew z y:=h.after (aC _ _).drew
theorem Nx.last (h:Nx B q4 q6 w0 w z y):Nx B q4 q6 w0 (jI w q4 y) y y:=⟨kR y h.b4,qv h.b6 (fun e=>h.ne e.symm) y,iL h.below h.h4 y,h.h4,h.h6,h.ne⟩
theorem Nx.put6 (h:Nx B q4 q6 w0 w z y) (u:Nd):Nx B q4 q6 w0 (jI w q6 u) z u:=⟨qv h.b4 h.ne u,kR u h.b6,iL h.below h.h6 u,h.h4,h.h6,h.ne⟩
theorem Nx.set1 (h:Nx B q4 q6 w0 w z y) (i:Nat) (u:Value) (y':Nd) (he:(nc y).toArray.setIfInBounds i u=(nc y').toArray):Nx B q4 q6 w0 (w.setCell ⟨q6,i,none⟩ u) z y':=
 ⟨Blk.far h.b4 h.ne u,he ▸ Blk.set_ h.b6 i u,h.below.setCell (p:=⟨q6,i,none⟩) h.h6 u,h.h4,h.h6,h.ne⟩
theorem Nx.par (h:Nx B q4 q6 w0 w z y) (p:St):Nx B q4 q6 w0 ((w.setCell ⟨q6,3,none⟩ (.int .i64 p.1)).setCell ⟨q6,4,none⟩ (.int .i64 p.2)) z { y with par:=p }:=
 (h.set1 3 (.int .i64 p.1) { y with par:=(p.1,y.par.2) } (by simp [nc])).set1 4 (.int .i64 p.2) { y with par:=p } (by simp [nc])
theorem Nx.nm (h:Nx B q4 q6 w0 w z y) (s:List UInt8):Nx B q4 q6 w0 (w.setCell ⟨q6,5,none⟩ (.string (bs s))) z { y with nm:=s }:=h.set1 5 _ _ (by simp [nc])
theorem Nx.mf (h:Nx B q4 q6 w0 w z y) (s:List UInt8):Nx B q4 q6 w0 (w.setCell ⟨q6,6,none⟩ (.string (bs s))) z { y with mf:=s }:=h.set1 6 _ _ (by simp [nc])
end
theorem kj (y:Nd) (w:World):∃w2 q4 q6,w2=(w.alloc (.cells (nc nd0).toArray 38)).alloc (.cells (nc y).toArray 38)/\q4=w.heap.size/\q6=w.heap.size+1/\Nx w.heap.size q4 q6 w w2 nd0 y:=by
 refine ⟨_,_,_,rfl,rfl,rfl,?_⟩;have h1:=(Blk.new w 38 (nc nd0).toArray).alloc (.cells (nc y).toArray 38);have h2:=Blk.new2 w (.cells (nc nd0).toArray 38) 38 (nc y).toArray;have b0:=(aC w.heap.size w).alloc (aB _) (.cells (nc nd0).toArray 38);exact ⟨h1,h2,b0.alloc b0.size _,aB _,by omega,by omega⟩
theorem JJ (x:dV) (y:Nd) (had made:Bool) (h4:x.kind=4) (g o p m:Nat) (v:Value) (r:Int) (es:List Nd) (w:World) (hd:fG w g o ⟨x,y,had,made⟩) (h:kH w p m v r es) (hm:es.length<=1000000):
  Calls prog 91 #[.pointer (some ⟨p,0,none⟩),.pointer (some ⟨g,o,none⟩)] w fun e w'=>
   e=.returned (.tuple #[nv (fQ es x y had).1,.bool (fQ es x y had).2])/\Below w.heap.size w w':=by
 obtain ⟨w2,q4,q6,eV,uk,BO,hN⟩:=kj y w;have hd2:=hd.below (w':=w2) ((aC _ _).trans (hN.below.mono (aB _)));have HN:=dH hN;have HS:=dH (h.below (w':=w2) hN.below);have HR:=dH hd2;have sW:=dH hd;have BF:=dH h;obtain ⟨a0,a1,a2,a3,a4,a5,a6⟩:=(hd.below (w':=w.alloc (.cells zn 38)) ((aC _ _).alloc (aB _) _)).was_;have HW:=dH (show w2=(w.alloc (.cells #[.int .i64 0,.int .i64 0,.bool false,.int .i64 0,.int .i64 0,.string ⟨#[]⟩,.string ⟨#[]⟩] 38)).alloc (.cells #[.int .i64 y.id.1,.int .i64 y.id.2,.bool y.dir,.int .i64 y.par.1,.int .i64 y.par.2,.string (bs y.nm),.string (bs y.mf)] 38) from eV);have HQ:=dH (And.intro uk BO);obtain ⟨o0,o1,o2,o3,o4,o5,o6,o7,o8,o9,rR⟩:=hd2.op_;obtain ⟨hh,rQ⟩:=hd2.had_;obtain ⟨z0,z1,z2,z3,z4,z5,z6⟩:=eU hN.b4;obtain ⟨g0,g1,g2,g3,g4,g5,g6⟩:=gC hN.b4;obtain ⟨c0,c1,c2,c3,c4,c5,c6⟩:=eU hN.b6;obtain ⟨f0,f1,f2,f3,f4,f5,f6⟩:=gC hN.b6;have n46:=hN.ne;have n64:=n46.symm;unfold zn at a0 a1 a2 a3 a4 a5 a6;clear hd hd2 hN h eV uk BO;unfold nv fQ;have e1:(x.kind ==1)=false:=by rw [h4];rfl
 have e2:(x.kind ==2)=false:=by rw [h4];rfl
 have e3:(x.kind ==3)=false:=by rw [h4];rfl
 have e4:(x.kind ==4)=true:=by rw [h4];rfl
 rw [if_neg (by rw [h4];decide),if_neg (by rw [h4];decide),if_neg (by rw [h4];decide),if_pos h4];clear h4;go_enter func91,ntmps91;go_upto_region 2 with (fail);rw [<-HW.o,<-HQ.o.2,<-HQ.o.1];clear a0 a1 a2 a3 a4 a5 a6;go_upto_region 16 with (fail);have T5:=HN.o.par (0,1);obtain ⟨w5,gL⟩:=dB ((w2.setCell ⟨q6,3,none⟩ (.int .i64 0)).setCell ⟨q6,4,none⟩ (.int .i64 1));rw [<-gL] at T5;rw [<-gL];have iB:=dH T5;clear gL T5 o0 o1 o2 o3 o4 o5 o6 o7 o8 o9 rR hh rQ z0 z1 z2 z3 z4 z5 z6 g0 g1 g2 g3 g4 g5 g6 c0 c1 c2 c3 c4 c5 c6 f0 f1 f2 f3 f4 f5 f6;obtain ⟨hh,rQ⟩:=(sW.o.below iB.o.below).had_;obtain ⟨c0,c1,c2,c3,c4,c5,c6⟩:=eU iB.o.b6;obtain ⟨r0,r1,r2,r3,r4,r5,r6⟩:=eU iB.o.b4;obtain ⟨g0,g1,g2,g3,g4,g5,g6⟩:=gC iB.o.b4;have z9:=iB.o.last;obtain ⟨t0,t1,t2,t3,t4,t5,t6⟩:=eU z9.b4;have hz0:=z9.below;unfold jI at hz0 t0 t1 t2 t3 t4 t5 t6;have HZ:=dH hz0;clear z9 hz0;go_region;go_wp2_with fail;exact bodyPost_ret (v:=.tuple #[.agg #[.int .i64 y.id.1,.int .i64 y.id.2,.bool y.dir,.int .i64 0,.int .i64 1,.string (bs y.nm),.string (bs y.mf)],.bool had]) (by simp [results,results91,go_sem,t0,t1,t2,t3,t4,t5,t6]) rfl ⟨rfl,HZ.o.drew⟩
theorem JK (x:dV) (y:Nd) (had made:Bool) (h3:x.kind=3) (h4:¬ x.kind=4) (g o p m:Nat) (v:Value) (r:Int) (es:List Nd) (w:World) (hd:fG w g o ⟨x,y,had,made⟩) (h:kH w p m v r es) (hm:es.length<=1000000):
  Calls prog 91 #[.pointer (some ⟨p,0,none⟩),.pointer (some ⟨g,o,none⟩)] w fun e w'=>
   e=.returned (.tuple #[nv (fQ es x y had).1,.bool (fQ es x y had).2])/\Below w.heap.size w w':=by
 obtain ⟨w2,q4,q6,eV,uk,BO,hN⟩:=kj y w;have hd2:=hd.below (w':=w2) ((aC _ _).trans (hN.below.mono (aB _)));have HN:=dH hN;have HS:=dH (h.below (w':=w2) hN.below);have HR:=dH hd2;have sW:=dH hd;have BF:=dH h;obtain ⟨a0,a1,a2,a3,a4,a5,a6⟩:=(hd.below (w':=w.alloc (.cells zn 38)) ((aC _ _).alloc (aB _) _)).was_;have HW:=dH (show w2=(w.alloc (.cells #[.int .i64 0,.int .i64 0,.bool false,.int .i64 0,.int .i64 0,.string ⟨#[]⟩,.string ⟨#[]⟩] 38)).alloc (.cells #[.int .i64 y.id.1,.int .i64 y.id.2,.bool y.dir,.int .i64 y.par.1,.int .i64 y.par.2,.string (bs y.nm),.string (bs y.mf)] 38) from eV);have HQ:=dH (And.intro uk BO);obtain ⟨o0,o1,o2,o3,o4,o5,o6,o7,o8,o9,rR⟩:=hd2.op_;obtain ⟨hh,rQ⟩:=hd2.had_;obtain ⟨z0,z1,z2,z3,z4,z5,z6⟩:=eU hN.b4;obtain ⟨g0,g1,g2,g3,g4,g5,g6⟩:=gC hN.b4;obtain ⟨c0,c1,c2,c3,c4,c5,c6⟩:=eU hN.b6;obtain ⟨f0,f1,f2,f3,f4,f5,f6⟩:=gC hN.b6;have n46:=hN.ne;have n64:=n46.symm;unfold zn at a0 a1 a2 a3 a4 a5 a6;clear hd hd2 hN h eV uk BO;unfold nv fQ;have e4:(x.kind ==4)=false:=by simpa using h4
 have e1:(x.kind ==1)=false:=by rw [h3];rfl
 have e2:(x.kind ==2)=false:=by rw [h3];rfl
 have e3:(x.kind ==3)=true:=by rw [h3];rfl
 rw [if_neg (by rw [h3];decide),if_neg (by rw [h3];decide),if_pos h3];clear h3 h4;go_enter func91,ntmps91;go_upto_region 2 with (fail);rw [<-HW.o,<-HQ.o.2,<-HQ.o.1];clear a0 a1 a2 a3 a4 a5 a6;go_upto_region 13 with (fail);have T5:=HN.o.mf x.mf;obtain ⟨w5,gL⟩:=dB (w2.setCell ⟨q6,6,none⟩ (.string (bs x.mf)));rw [<-gL] at T5;rw [<-gL];have iB:=dH T5;clear gL T5 o0 o1 o2 o3 o4 o5 o6 o7 o8 o9 rR hh rQ z0 z1 z2 z3 z4 z5 z6 g0 g1 g2 g3 g4 g5 g6 c0 c1 c2 c3 c4 c5 c6 f0 f1 f2 f3 f4 f5 f6;obtain ⟨hh,rQ⟩:=(sW.o.below iB.o.below).had_;obtain ⟨c0,c1,c2,c3,c4,c5,c6⟩:=eU iB.o.b6;obtain ⟨r0,r1,r2,r3,r4,r5,r6⟩:=eU iB.o.b4;obtain ⟨g0,g1,g2,g3,g4,g5,g6⟩:=gC iB.o.b4;have z9:=iB.o.last;obtain ⟨t0,t1,t2,t3,t4,t5,t6⟩:=eU z9.b4;obtain ⟨s0,s1,s2,s3,s4,s5,s6⟩:=eU z9.b6;have hz0:=z9.below;unfold jI at hz0 t0 t1 t2 t3 t4 t5 t6 s0 s1 s2 s3 s4 s5 s6;have HZ:=dH hz0;clear z9 hz0;cases had with
 |false=>
  go_region;all_goals
   go_wp2_with fail;exact bodyPost_ret (v:=.tuple #[.agg #[.int .i64 y.id.1,.int .i64 y.id.2,.bool y.dir,.int .i64 y.par.1,.int .i64 y.par.2,.string (bs y.nm),.string (bs x.mf)],.bool false]) (by simp [results,results91,go_sem,t0,t1,t2,t3,t4,t5,t6]) rfl ⟨rfl,HZ.o.drew⟩
 |true=>
  go_region;all_goals
   go_wp2_with fail;exact bodyPost_ret (v:=.tuple #[.agg #[.int .i64 y.id.1,.int .i64 y.id.2,.bool y.dir,.int .i64 y.par.1,.int .i64 y.par.2,.string (bs y.nm),.string (bs x.mf)],.bool (!y.dir)]) (by simp [results,results91,go_sem,t0,t1,t2,t3,t4,t5,t6]) rfl ⟨rfl,HZ.o.drew⟩
theorem JL (x:dV) (y:Nd) (had made:Bool) (h1:¬ x.kind=1) (h2:¬ x.kind=2) (h3:¬ x.kind=3) (h4:¬ x.kind=4) (g o p m:Nat) (v:Value) (r:Int) (es:List Nd) (w:World) (hd:fG w g o ⟨x,y,had,made⟩) (h:kH w p m v r es) (hm:es.length<=1000000):
  Calls prog 91 #[.pointer (some ⟨p,0,none⟩),.pointer (some ⟨g,o,none⟩)] w fun e w'=>
   e=.returned (.tuple #[nv (fQ es x y had).1,.bool (fQ es x y had).2])/\Below w.heap.size w w':=by
 obtain ⟨w2,q4,q6,eV,uk,BO,hN⟩:=kj y w;have hd2:=hd.below (w':=w2) ((aC _ _).trans (hN.below.mono (aB _)));have HN:=dH hN;have HS:=dH (h.below (w':=w2) hN.below);have HR:=dH hd2;have sW:=dH hd;have BF:=dH h;obtain ⟨a0,a1,a2,a3,a4,a5,a6⟩:=(hd.below (w':=w.alloc (.cells zn 38)) ((aC _ _).alloc (aB _) _)).was_;have HW:=dH (show w2=(w.alloc (.cells #[.int .i64 0,.int .i64 0,.bool false,.int .i64 0,.int .i64 0,.string ⟨#[]⟩,.string ⟨#[]⟩] 38)).alloc (.cells #[.int .i64 y.id.1,.int .i64 y.id.2,.bool y.dir,.int .i64 y.par.1,.int .i64 y.par.2,.string (bs y.nm),.string (bs y.mf)] 38) from eV);have HQ:=dH (And.intro uk BO);obtain ⟨o0,o1,o2,o3,o4,o5,o6,o7,o8,o9,rR⟩:=hd2.op_;obtain ⟨hh,rQ⟩:=hd2.had_;obtain ⟨z0,z1,z2,z3,z4,z5,z6⟩:=eU hN.b4;obtain ⟨g0,g1,g2,g3,g4,g5,g6⟩:=gC hN.b4;obtain ⟨c0,c1,c2,c3,c4,c5,c6⟩:=eU hN.b6;obtain ⟨f0,f1,f2,f3,f4,f5,f6⟩:=gC hN.b6;have n46:=hN.ne;have n64:=n46.symm;unfold zn at a0 a1 a2 a3 a4 a5 a6;clear hd hd2 hN h eV uk BO;unfold nv fQ;have e1:(x.kind ==1)=false:=by simpa using h1
 have e3:(x.kind ==3)=false:=by simpa using h3
 have e4:(x.kind ==4)=false:=by simpa using h4
 have e2:(x.kind ==2)=false:=by simpa using h2
 rw [if_neg h1,if_neg h2,if_neg h3,if_neg h4];clear h1 h2 h3 h4;have z9:=HN.o.last;obtain ⟨t0,t1,t2,t3,t4,t5,t6⟩:=eU z9.b4;have hz0:=z9.below;unfold jI at hz0 t0 t1 t2 t3 t4 t5 t6;have HZ:=dH hz0;clear z9 hz0;go_enter func91,ntmps91;go_upto_region 2 with (fail);rw [<-HW.o,<-HQ.o.2,<-HQ.o.1];go_wp2_with fail;exact bodyPost_ret (v:=.tuple #[.agg #[.int .i64 y.id.1,.int .i64 y.id.2,.bool y.dir,.int .i64 y.par.1,.int .i64 y.par.2,.string (bs y.nm),.string (bs y.mf)],.bool false]) (by simp [results,results91,go_sem,t0,t1,t2,t3,t4,t5,t6]) rfl ⟨rfl,HZ.o⟩
end
section
set_option linter.unusedSimpArgs false
set_option linter.unusedVariables false
open Go.RowKit
attribute [local go_sem] dO dL dQ dM
theorem JM (x:dV) (y:Nd) (had made:Bool) (h1:x.kind=1) (h3:¬ x.kind=3) (h4:¬ x.kind=4) (g o p m:Nat) (v:Value) (r:Int) (es:List Nd) (w:World) (hd:fG w g o ⟨x,y,had,made⟩) (h:kH w p m v r es) (hm:es.length<=1000000):
  Calls prog 91 #[.pointer (some ⟨p,0,none⟩),.pointer (some ⟨g,o,none⟩)] w fun e w'=>
   e=.returned (.tuple #[nv (fQ es x y had).1,.bool (fQ es x y had).2])/\Below w.heap.size w w':=by
 obtain ⟨w2,q4,q6,eV,uk,BO,hN⟩:=kj y w;have hd2:=hd.below (w':=w2) ((aC _ _).trans (hN.below.mono (aB _)));have HN:=dH hN;have HS:=dH (h.below (w':=w2) hN.below);have HR:=dH hd2;have sW:=dH hd;have BF:=dH h;obtain ⟨a0,a1,a2,a3,a4,a5,a6⟩:=(hd.below (w':=w.alloc (.cells zn 38)) ((aC _ _).alloc (aB _) _)).was_;have HW:=dH (show w2=(w.alloc (.cells #[.int .i64 0,.int .i64 0,.bool false,.int .i64 0,.int .i64 0,.string ⟨#[]⟩,.string ⟨#[]⟩] 38)).alloc (.cells #[.int .i64 y.id.1,.int .i64 y.id.2,.bool y.dir,.int .i64 y.par.1,.int .i64 y.par.2,.string (bs y.nm),.string (bs y.mf)] 38) from eV);have HQ:=dH (And.intro uk BO);obtain ⟨o0,o1,o2,o3,o4,o5,o6,o7,o8,o9,rR⟩:=hd2.op_;obtain ⟨hh,rQ⟩:=hd2.had_;obtain ⟨z0,z1,z2,z3,z4,z5,z6⟩:=eU hN.b4;obtain ⟨g0,g1,g2,g3,g4,g5,g6⟩:=gC hN.b4;obtain ⟨c0,c1,c2,c3,c4,c5,c6⟩:=eU hN.b6;obtain ⟨f0,f1,f2,f3,f4,f5,f6⟩:=gC hN.b6;have n46:=hN.ne;have n64:=n46.symm;unfold zn at a0 a1 a2 a3 a4 a5 a6;clear hd hd2 hN h eV uk BO;unfold nv fQ;have e3:(x.kind ==3)=false:=by simpa using h3
 have e4:(x.kind ==4)=false:=by simpa using h4
 have e1:(x.kind ==1)=true:=by rw [h1];rfl
 rw [if_pos h1];obtain ⟨pp,WT⟩:=dB ((if fI x.par es then x.par else (0,1)));rw [<-WT];have HP:=dH WT;clear h1 h3 h4 WT;go_enter func91,ntmps91;go_upto_region 2 with (fail);rw [<-HW.o,<-HQ.o.2,<-HQ.o.1];clear a0 a1 a2 a3 a4 a5 a6;go_upto_region 4 with (fail);have T5:=(HN.o.put6 ⟨x.node,x.dir,x.par,x.nm,x.mf⟩).drew;refine gd (C:=fun w'=>w'=w2.drew) 26 (by kernel_rfl) (by kernel_rfl) rfl ?_;simp only [cU,List.take_zero,List.drop_succ_cons,bk];repeat (go_big_quiet_step (fail))
 refine wpQuiet_nil ?_;rintro _ rfl;go_wp2_with fail;obtain ⟨w5,gL⟩:=dB ((jI w2 q6 ⟨x.node,x.dir,x.par,x.nm,x.mf⟩).drew);rw [<-gL] at T5;unfold jI at gL;simp only at gL;rw [<-gL];have iB:=dH T5;clear gL T5 o0 o1 o2 o3 o4 o5 o6 o9 rR o7 o8 hh rQ z0 z1 z2 z3 z4 z5 z6 g0 g1 g2 g3 g4 g5 g6 c0 c1 c2 c3 c4 c5 c6 f0 f1 f2 f3 f4 f5 f6;obtain ⟨_,_,_,_,_,_,_,o7,o8,_,_⟩:=(sW.o.below iB.o.below).op_;go_wp2_with fail;refine (vn x.par p m v r es _ (BF.o.below iB.o.below)).mono ?_;rintro e w6 ⟨rfl,iW⟩;have nI:=dH (iB.o.after iW);clear iW o7 o8;cases ht:fI x.par es with
 |true=>
  obtain ⟨hh,rQ⟩:=(sW.o.below nI.o.below).had_;obtain ⟨c0,c1,c2,c3,c4,c5,c6⟩:=eU nI.o.b6;obtain ⟨r0,r1,r2,r3,r4,r5,r6⟩:=eU nI.o.b4;obtain ⟨g0,g1,g2,g3,g4,g5,g6⟩:=gC nI.o.b4;have z9:=nI.o.last;obtain ⟨t0,t1,t2,t3,t4,t5,t6⟩:=eU z9.b4;have hz0:=z9.below;unfold jI at hz0 t0 t1 t2 t3 t4 t5 t6;have HZ:=dH hz0;have PI:=dH ht;clear z9 hz0 ht;go_upto_region 7 with (fail);go_region;go_wp2_with fail;exact bodyPost_ret (v:=.tuple #[.agg #[.int .i64 x.node.1,.int .i64 x.node.2,.bool x.dir,.int .i64 x.par.1,.int .i64 x.par.2,.string (bs x.nm),.string (bs x.mf)],.bool (!had)]) (by simp [results,results91,go_sem,t0,t1,t2,t3,t4,t5,t6]) rfl ⟨by rw [HP.o,PI.o];rfl,HZ.o.drew⟩
 |false=>
  obtain ⟨f0,f1,f2,f3,f4,f5,f6⟩:=gC nI.o.b6;obtain ⟨c0,c1,c2,c3,c4,c5,c6⟩:=eU nI.o.b6;have PI:=dH ht;clear ht;go_upto_region 7 with (fail);have T7:=nI.o.par (0,1);obtain ⟨w7,nK⟩:=dB ((w6.setCell ⟨q6,3,none⟩ (.int .i64 0)).setCell ⟨q6,4,none⟩ (.int .i64 1));rw [<-nK] at T7;rw [<-nK];have sV:=dH T7;clear nK T7 c0 c1 c2 c3 c4 c5 c6 f0 f1 f2 f3 f4 f5 f6;obtain ⟨hh,rQ⟩:=(sW.o.below sV.o.below).had_;obtain ⟨c0,c1,c2,c3,c4,c5,c6⟩:=eU sV.o.b6;obtain ⟨r0,r1,r2,r3,r4,r5,r6⟩:=eU sV.o.b4;obtain ⟨g0,g1,g2,g3,g4,g5,g6⟩:=gC sV.o.b4;have z9:=sV.o.last;obtain ⟨t0,t1,t2,t3,t4,t5,t6⟩:=eU z9.b4;have hz0:=z9.below;unfold jI at hz0 t0 t1 t2 t3 t4 t5 t6;have HZ:=dH hz0;clear z9 hz0;go_region;go_wp2_with fail;exact bodyPost_ret (v:=.tuple #[.agg #[.int .i64 x.node.1,.int .i64 x.node.2,.bool x.dir,.int .i64 0,.int .i64 1,.string (bs x.nm),.string (bs x.mf)],.bool (!had)]) (by simp [results,results91,go_sem,t0,t1,t2,t3,t4,t5,t6]) rfl ⟨by rw [HP.o,PI.o];rfl,HZ.o.drew⟩
set_option linter.unusedSimpArgs false
set_option linter.unusedVariables false
open Go.RowKit
attribute [local go_sem] dO dL dQ dM
theorem QT {B q4 q6:Nat} {w0:World} {z y:Nd} {x:dV} {y0:Nd} {made:Bool} {g o:Nat} (W:World) (had:Bool) (h:Nx B q4 q6 w0 W z ⟨y.id,y.dir,x.par,x.nm,y.mf⟩) (hr:fG W g o ⟨x,y0,had,made⟩):
  W.cell? ⟨q6,0,none⟩=some (.int .i64 y.id.1)/\W.cell? ⟨q6,1,none⟩=some (.int .i64 y.id.2)/\W.cell? ⟨q6,2,none⟩=some (.bool y.dir)/\W.cell? ⟨q6,3,none⟩=some (.int .i64 x.par.1)/\W.cell? ⟨q6,4,none⟩=some (.int .i64 x.par.2)/\W.cell? ⟨q6,5,none⟩=some (.string (bs x.nm))/\W.cell? ⟨q6,6,none⟩=some (.string (bs y.mf))/\
     W.cell? ⟨g,o+4,none⟩=some (.int .i64 x.node.1)/\W.cell? ⟨g,o+5,none⟩=some (.int .i64 x.node.2)/\W.cell? ⟨g,o+7,none⟩=some (.int .i64 x.par.1)/\W.cell? ⟨g,o+8,none⟩=some (.int .i64 x.par.2)/\W.cell? ⟨g,o+18,none⟩=some (.bool had):=
 ⟨h.b6.cell 0,h.b6.cell 1,h.b6.cell 2,h.b6.cell 3,h.b6.cell 4,h.b6.cell 5,h.b6.cell 6,hr.2 4 _ rfl,hr.2 5 _ rfl,hr.2 7 _ rfl,hr.2 8 _ rfl,hr.2 18 _ rfl⟩
theorem JN (x:dV) (y:Nd) (had made:Bool) (h2:x.kind=2) (g o p m:Nat) (v:Value) (r:Int) (es:List Nd) (w:World) (hd:fG w g o ⟨x,y,had,made⟩) (h:kH w p m v r es) (hm:es.length<=1000000):
  Calls prog 91 #[.pointer (some ⟨p,0,none⟩),.pointer (some ⟨g,o,none⟩)] w fun e w'=>
   e=.returned (.tuple #[nv (fQ es x y had).1,.bool (fQ es x y had).2])/\Below w.heap.size w w':=by
 obtain ⟨w2,q4,q6,eV,uk,BO,hN⟩:=kj y w;have hd2:=hd.below (w':=w2) ((aC _ _).trans (hN.below.mono (aB _)));have HN:=dH hN;have HS:=dH (h.below (w':=w2) hN.below);have HR:=dH hd2;have sW:=dH hd;have BF:=dH h;obtain ⟨a0,a1,a2,a3,a4,a5,a6⟩:=(hd.below (w':=w.alloc (.cells zn 38)) ((aC _ _).alloc (aB _) _)).was_;have HW:=dH (show w2=(w.alloc (.cells #[.int .i64 0,.int .i64 0,.bool false,.int .i64 0,.int .i64 0,.string ⟨#[]⟩,.string ⟨#[]⟩] 38)).alloc (.cells #[.int .i64 y.id.1,.int .i64 y.id.2,.bool y.dir,.int .i64 y.par.1,.int .i64 y.par.2,.string (bs y.nm),.string (bs y.mf)] 38) from eV);have HQ:=dH (And.intro uk BO);obtain ⟨o0,o1,o2,o3,o4,o5,o6,o7,o8,o9,rR⟩:=hd2.op_;obtain ⟨hh,rQ⟩:=hd2.had_;obtain ⟨z0,z1,z2,z3,z4,z5,z6⟩:=eU hN.b4;obtain ⟨g0,g1,g2,g3,g4,g5,g6⟩:=gC hN.b4;obtain ⟨c0,c1,c2,c3,c4,c5,c6⟩:=eU hN.b6;obtain ⟨f0,f1,f2,f3,f4,f5,f6⟩:=gC hN.b6;have n46:=hN.ne;have n64:=n46.symm;unfold zn at a0 a1 a2 a3 a4 a5 a6;clear hd hd2 hN h eV uk BO;unfold nv fQ;have e1:(x.kind ==1)=false:=by rw [h2];rfl
 have e2:(x.kind ==2)=true:=by rw [h2];rfl
 rw [if_neg (by rw [h2];decide),if_pos h2];clear h2;obtain ⟨tk,htk⟩:=dB (fI x.par es);obtain ⟨bl,jY⟩:=dB (belowP es (es.length+1) x.par x.node);have tc:=dH (fun (w':World) (h':kH w' p m v r es)=>vn x.par p m v r es w' h');have qM:=dH (fun (w':World) (h':kH w' p m v r es)=>JH x.par x.node p m v r es w' h' hm);rw [<-htk] at tc;rw [<-jY] at qM;rw [<-htk,<-jY];unfold sv at tc qM;clear htk jY;go_enter func91,ntmps91;go_upto_region 2 with (fail);rw [<-HW.o,<-HQ.o.2,<-HQ.o.1];clear a0 a1 a2 a3 a4 a5 a6;go_upto_region 9 with (fail);have T5:=((HN.o.par x.par).nm x.nm).drew;clear o0 o1 o2 o3 o6 o4 o5 rQ hh z0 z1 z2 z3 z4 z5 z6 g0 g1 g2 g3 g4 g5 g6 rR;go_region;have iB:dG (Nx w.heap.size q4 q6 w (((w2.setCell ⟨q6,3,none⟩ (.int .i64 x.par.1)).setCell ⟨q6,4,none⟩ (.int .i64 x.par.2)).setCell ⟨q6,5,none⟩ (.string (bs x.nm))).drew nd0 ⟨y.id,y.dir,x.par,x.nm,y.mf⟩):=dH T5;obtain ⟨w5,gL⟩:=dB ((((w2.setCell ⟨q6,3,none⟩ (.int .i64 x.par.1)).setCell ⟨q6,4,none⟩ (.int .i64 x.par.2)).setCell ⟨q6,5,none⟩ (.string (bs x.nm))).drew);rw [<-gL] at iB;rw [<-gL];clear gL T5 o7 o8 o9 c0 c1 c2 c3 c4 c5 c6 f0 f1 f2 f3 f4 f5 f6;have k0:∀u:dm w5,u.wd.cell? ⟨q6,0,none⟩=some (.int .i64 y.id.1):=fun u=>u.cell (iB.o.b6.cell 0)
 have k1:∀u:dm w5,u.wd.cell? ⟨q6,1,none⟩=some (.int .i64 y.id.2):=fun u=>u.cell (iB.o.b6.cell 1)
 have k2:∀u:dm w5,u.wd.cell? ⟨q6,2,none⟩=some (.bool y.dir):=fun u=>u.cell (iB.o.b6.cell 2)
 have k3:∀u:dm w5,u.wd.cell? ⟨q6,3,none⟩=some (.int .i64 x.par.1):=fun u=>u.cell (iB.o.b6.cell 3)
 have k4:∀u:dm w5,u.wd.cell? ⟨q6,4,none⟩=some (.int .i64 x.par.2):=fun u=>u.cell (iB.o.b6.cell 4)
 have k5:∀u:dm w5,u.wd.cell? ⟨q6,5,none⟩=some (.string (bs x.nm)):=fun u=>u.cell (iB.o.b6.cell 5)
 have k6:∀u:dm w5,u.wd.cell? ⟨q6,6,none⟩=some (.string (bs y.mf)):=fun u=>u.cell (iB.o.b6.cell 6)
 have yH:=sW.o.below iB.o.below;have j4:∀u:dm w5,u.wd.cell? ⟨g,o+4,none⟩=some (.int .i64 x.node.1):=fun u=>(yH.below u.below).2 4 _ rfl
 have j5:∀u:dm w5,u.wd.cell? ⟨g,o+5,none⟩=some (.int .i64 x.node.2):=fun u=>(yH.below u.below).2 5 _ rfl
 have j7:∀u:dm w5,u.wd.cell? ⟨g,o+7,none⟩=some (.int .i64 x.par.1):=fun u=>(yH.below u.below).2 7 _ rfl
 have j8:∀u:dm w5,u.wd.cell? ⟨g,o+8,none⟩=some (.int .i64 x.par.2):=fun u=>(yH.below u.below).2 8 _ rfl
 have jh:∀u:dm w5,u.wd.cell? ⟨g,o+18,none⟩=some (.bool had):=fun u=>(yH.below u.below).2 18 _ rfl
 have ct:∀u:dm w5,Calls prog 149 #[.pointer (some ⟨p,0,none⟩),.agg #[.int .i64 x.par.1,.int .i64 x.par.2]] u.wd fun e w'=>e=.returned (.bool tk)/\Below u.wd.heap.size u.wd w':=fun u=>tc.o u.wd ((BF.o.below iB.o.below).below u.below)
 have cb:∀u:dm w5,Calls prog 150 #[.pointer (some ⟨p,0,none⟩),.agg #[.int .i64 x.par.1,.int .i64 x.par.2],.agg #[.int .i64 x.node.1,.int .i64 x.node.2]] u.wd fun e w'=>e=.returned (.bool bl)/\Below u.wd.heap.size u.wd w':=fun u=>qM.o u.wd ((BF.o.below iB.o.below).below u.below)
 have Hct:=dH ct;have Hcb:=dH cb;clear yH ct cb;cases had with
 |false=>
   go_upto_region 10 with (fail);clear k0 k1 k2 k3 k4 k5 k6 j4 j5 j7 j8 jh;obtain ⟨r0,r1,r2,r3,r4,r5,r6⟩:=eU iB.o.b4;obtain ⟨g0,g1,g2,g3,g4,g5,g6⟩:=gC iB.o.b4;refine wp_region_noPanic ?_;refine wp_region_held_drew (S:=fun w'=>w'.cell? ⟨q6,0,none⟩=some (.int .i64 y.id.1)/\w'.cell? ⟨q6,1,none⟩=some (.int .i64 y.id.2)/\w'.cell? ⟨q6,2,none⟩=some (.bool y.dir)/\w'.cell? ⟨q6,3,none⟩=some (.int .i64 x.par.1)/\w'.cell? ⟨q6,4,none⟩=some (.int .i64 x.par.2)/\w'.cell? ⟨q6,5,none⟩=some (.string (bs x.nm))/\w'.cell? ⟨q6,6,none⟩=some (.string (bs y.mf))/\
     w'.cell? ⟨g,o+4,none⟩=some (.int .i64 x.node.1)/\w'.cell? ⟨g,o+5,none⟩=some (.int .i64 x.node.2)/\w'.cell? ⟨g,o+7,none⟩=some (.int .i64 x.par.1)/\w'.cell? ⟨g,o+8,none⟩=some (.int .i64 x.par.2)/\w'.cell? ⟨g,o+18,none⟩=some (.bool false)) (by kernel_rfl) (QT _ false iB.o.drew (sW.o.below iB.o.drew.below)) (fun dW=>?_)
   refine wpAnyH_take (i:=0) (v:=?_) rfl (by kernel_rfl) (by kernel_rfl) (by kernel_rfl) (fun _ _ _ h=>h) (Or.inl ⟨by first|(with_reducible rfl)|kernel_rfl,?_⟩) dW ?_
   rotate_left
   ·(intro w gF;(try dsimp only at gF);go_simp;first|done|with_reducible rfl)
   (try simp only [Act.put,aM,aJ,aL,aH,aD,aF])
   refine wpAnyH_take (i:=1) (v:=?_) rfl (by kernel_rfl) (by kernel_rfl) (by kernel_rfl) (fun _ _ _ h=>h) (Or.inl ⟨by first|(with_reducible rfl)|kernel_rfl,?_⟩) dW ?_
   rotate_left
   ·(intro w gF;(try dsimp only at gF);go_simp;first|done|with_reducible rfl)
   (try simp only [Act.put,aM,aJ,aL,aH,aD,aF])
   refine wpAnyH_take (i:=2) (v:=?_) rfl (by kernel_rfl) (by kernel_rfl) (by kernel_rfl) (fun _ _ _ h=>h) (Or.inl ⟨by first|(with_reducible rfl)|kernel_rfl,?_⟩) dW ?_
   rotate_left
   ·(intro w gF;(try dsimp only at gF);go_simp;first|done|with_reducible rfl)
   (try simp only [Act.put,aM,aJ,aL,aH,aD,aF])
   refine wpAnyH_take (i:=3) (v:=?_) rfl (by kernel_rfl) (by kernel_rfl) (by kernel_rfl) (fun _ _ _ h=>h) (Or.inl ⟨by first|(with_reducible rfl)|kernel_rfl,?_⟩) dW ?_
   rotate_left
   ·(intro w gF;(try dsimp only at gF);go_simp;first|done|with_reducible rfl)
   (try simp only [Act.put,aM,aJ,aL,aH,aD,aF])
   refine wpAnyH_take (i:=4) (v:=?_) rfl (by kernel_rfl) (by kernel_rfl) (by kernel_rfl) (fun _ _ _ h=>h) (Or.inl ⟨by first|(with_reducible rfl)|kernel_rfl,?_⟩) dW ?_
   rotate_left
   ·(intro w gF;(try dsimp only at gF);go_simp;first|done|with_reducible rfl)
   (try simp only [Act.put,aM,aJ,aL,aH,aD,aF])
   refine wpAnyH_take (i:=5) (v:=?_) rfl (by kernel_rfl) (by kernel_rfl) (by kernel_rfl) (fun _ _ _ h=>h) (Or.inl ⟨by first|(with_reducible rfl)|kernel_rfl,?_⟩) dW ?_
   rotate_left
   ·(intro w gF;(try dsimp only at gF);go_simp;first|done|with_reducible rfl)
   (try simp only [Act.put,aM,aJ,aL,aH,aD,aF])
   refine wpAnyH_take (i:=6) (v:=undef) rfl (by kernel_rfl) (by kernel_rfl) (by kernel_rfl) (fun _ _ _ h=>h) (Or.inr ⟨by kernel_rfl,rfl⟩) dW ?_
   (try simp only [Act.put,aM,aJ,aL,aH,aD,aF])
   refine wpAnyH_take (i:=7) (v:=undef) rfl (by kernel_rfl) (by kernel_rfl) (by kernel_rfl) (fun _ _ _ h=>h) (Or.inr ⟨by kernel_rfl,rfl⟩) dW ?_
   (try simp only [Act.put,aM,aJ,aL,aH,aD,aF])
   refine wpAnyH_take (i:=8) (v:=undef) rfl (by kernel_rfl) (by kernel_rfl) (by kernel_rfl) (fun _ _ _ h=>h) (Or.inr ⟨by kernel_rfl,rfl⟩) dW ?_
   (try simp only [Act.put,aM,aJ,aL,aH,aD,aF])
   refine wpAnyH_take (i:=9) (v:=undef) rfl (by kernel_rfl) (by kernel_rfl) (by kernel_rfl) (fun _ _ _ h=>h) (Or.inr ⟨by kernel_rfl,rfl⟩) dW ?_
   (try simp only [Act.put,aM,aJ,aL,aH,aD,aF])
   refine wpAnyH_take (i:=10) (v:=undef) rfl (by kernel_rfl) (by kernel_rfl) (by kernel_rfl) (fun _ _ _ h=>h) (Or.inr ⟨by kernel_rfl,rfl⟩) dW ?_
   (try simp only [Act.put,aM,aJ,aL,aH,aD,aF])
   refine wpAnyH_take (i:=11) (v:=undef) rfl (by kernel_rfl) (by kernel_rfl) (by kernel_rfl) (fun _ _ _ h=>h) (Or.inr ⟨by kernel_rfl,rfl⟩) dW ?_
   (try simp only [Act.put,aM,aJ,aL,aH,aD,aF])
   refine wpAnyH_take (i:=12) (v:=undef) rfl (by kernel_rfl) (by kernel_rfl) (by kernel_rfl) (fun _ _ _ h=>h) (Or.inr ⟨by kernel_rfl,rfl⟩) dW ?_
   (try simp only [Act.put,aM,aJ,aL,aH,aD,aF])
   refine wpAnyH_take (i:=13) (v:=?_) rfl (by kernel_rfl) (by kernel_rfl) (by kernel_rfl) (fun _ _ _ h=>h) (Or.inl ⟨by first|(with_reducible rfl)|kernel_rfl,?_⟩) dW ?_
   rotate_left
   ·(intro w gF;(try dsimp only at gF);go_simp;first|done|with_reducible rfl)
   (try simp only [Act.put,aM,aJ,aL,aH,aD,aF])
   refine wpAnyH_take (i:=14) (v:=?_) rfl (by kernel_rfl) (by kernel_rfl) (by kernel_rfl) (fun _ _ _ h=>h) (Or.inl ⟨by first|(with_reducible rfl)|kernel_rfl,?_⟩) dW ?_
   rotate_left
   ·(intro w gF;(try dsimp only at gF);go_simp;first|done|with_reducible rfl)
   (try simp only [Act.put,aM,aJ,aL,aH,aD,aF])
   refine wpAnyH_take (i:=15) (v:=undef) rfl (by kernel_rfl) (by kernel_rfl) (by kernel_rfl) (fun _ _ _ h=>h) (Or.inr ⟨by kernel_rfl,rfl⟩) dW ?_
   (try simp only [Act.put,aM,aJ,aL,aH,aD,aF])
   refine wpAnyH_take (i:=16) (v:=undef) rfl (by kernel_rfl) (by kernel_rfl) (by kernel_rfl) (fun _ _ _ h=>h) (Or.inr ⟨by kernel_rfl,rfl⟩) dW ?_
   (try simp only [Act.put,aM,aJ,aL,aH,aD,aF])
   refine wpAnyH_take (i:=17) (v:=undef) rfl (by kernel_rfl) (by kernel_rfl) (by kernel_rfl) (fun _ _ _ h=>h) (Or.inr ⟨by kernel_rfl,rfl⟩) dW ?_
   (try simp only [Act.put,aM,aJ,aL,aH,aD,aF])
   refine wpAnyH_take (i:=18) (v:=undef) rfl (by kernel_rfl) (by kernel_rfl) (by kernel_rfl) (fun _ _ _ h=>h) (Or.inr ⟨by kernel_rfl,rfl⟩) dW ?_
   (try simp only [Act.put,aM,aJ,aL,aH,aD,aF])
   refine wpAnyH_take (i:=19) (v:=undef) rfl (by kernel_rfl) (by kernel_rfl) (by kernel_rfl) (fun _ _ _ h=>h) (Or.inr ⟨by kernel_rfl,rfl⟩) dW ?_
   (try simp only [Act.put,aM,aJ,aL,aH,aD,aF])
   refine wpAnyH_take (i:=20) (v:=undef) rfl (by kernel_rfl) (by kernel_rfl) (by kernel_rfl) (fun _ _ _ h=>h) (Or.inr ⟨by kernel_rfl,rfl⟩) dW ?_
   (try simp only [Act.put,aM,aJ,aL,aH,aD,aF])
   refine wpAnyH_take (i:=21) (v:=undef) rfl (by kernel_rfl) (by kernel_rfl) (by kernel_rfl) (fun _ _ _ h=>h) (Or.inr ⟨by kernel_rfl,rfl⟩) dW ?_
   (try simp only [Act.put,aM,aJ,aL,aH,aD,aF])
   refine wpAnyH_take (i:=22) (v:=undef) rfl (by kernel_rfl) (by kernel_rfl) (by kernel_rfl) (fun _ _ _ h=>h) (Or.inr ⟨by kernel_rfl,rfl⟩) dW ?_
   (try simp only [Act.put,aM,aJ,aL,aH,aD,aF])
   refine wpAnyH_take (i:=23) (v:=undef) rfl (by kernel_rfl) (by kernel_rfl) (by kernel_rfl) (fun _ _ _ h=>h) (Or.inr ⟨by kernel_rfl,rfl⟩) dW ?_
   (try simp only [Act.put,aM,aJ,aL,aH,aD,aF])
   refine wpAnyH_take (i:=24) (v:=undef) rfl (by kernel_rfl) (by kernel_rfl) (by kernel_rfl) (fun _ _ _ h=>h) (Or.inr ⟨by kernel_rfl,rfl⟩) dW ?_
   (try simp only [Act.put,aM,aJ,aL,aH,aD,aF])
   refine wpAnyH_take (i:=25) (v:=undef) rfl (by kernel_rfl) (by kernel_rfl) (by kernel_rfl) (fun _ _ _ h=>h) (Or.inr ⟨by kernel_rfl,rfl⟩) dW ?_
   (try simp only [Act.put,aM,aJ,aL,aH,aD,aF])
   refine wpAnyH_take (i:=26) (v:=undef) rfl (by kernel_rfl) (by kernel_rfl) (by kernel_rfl) (fun _ _ _ h=>h) (Or.inr ⟨by kernel_rfl,rfl⟩) dW ?_
   (try simp only [Act.put,aM,aJ,aL,aH,aD,aF])
   refine wpAnyH_take (i:=27) (v:=undef) rfl (by kernel_rfl) (by kernel_rfl) (by kernel_rfl) (fun _ _ _ h=>h) (Or.inr ⟨by kernel_rfl,rfl⟩) dW ?_
   (try simp only [Act.put,aM,aJ,aL,aH,aD,aF])
   refine wpAnyH_take (i:=28) (v:=?_) rfl (by kernel_rfl) (by kernel_rfl) (by kernel_rfl) (fun _ _ _ h=>h) (Or.inl ⟨by first|(with_reducible rfl)|kernel_rfl,?_⟩) dW ?_
   rotate_left
   ·(intro w gF;(try dsimp only at gF);go_simp;first|done|with_reducible rfl)
   (try simp only [Act.put,aM,aJ,aL,aH,aD,aF])
   refine wpAnyH_ready (rs:=[29]) (by kernel_rfl) (by simp) ?_;refine AllReadyH.cons rfl (fun K hK=>?_) AllReadyH.nil;go_simp;refine hK.out _ _ ((QT _ false iB.o.last.drew (sW.o.below iB.o.last.drew.below))) (fun dW=>?_);clear hK K
   (try simp only [Act.put,aM,aJ,aL,aH,aD,aF])
   refine wpAnyH_take (i:=30) (v:=?_) rfl (by kernel_rfl) (by kernel_rfl) (by kernel_rfl) (fun _ _ _ h=>h) (Or.inl ⟨by first|(with_reducible rfl)|kernel_rfl,?_⟩) dW ?_
   rotate_left
   ·(intro w gF;(try dsimp only at gF);go_simp;first|done|with_reducible rfl)
   (try simp only [Act.put,aM,aJ,aL,aH,aD,aF])
   refine wpAnyH_done (by kernel_rfl) ?_ _;refine NoPanic.normal ?_;have z9:=iB.o.last;obtain ⟨t0,t1,t2,t3,t4,t5,t6⟩:=eU z9.b4;have hz0:=z9.below;unfold jI at hz0 t0 t1 t2 t3 t4 t5 t6;have HZ:=dH hz0;clear z9 hz0 r0 r1 r2 r3 r4 r5 r6 g0 g1 g2 g3 g4 g5 g6;go_wp2_with fail;exact bodyPost_ret (v:=.tuple #[.agg #[.int .i64 y.id.1,.int .i64 y.id.2,.bool y.dir,.int .i64 x.par.1,.int .i64 x.par.2,.string (bs x.nm),.string (bs y.mf)],.bool false]) (by simp [results,results91,go_sem,t0,t1,t2,t3,t4,t5,t6]) rfl ⟨by simp,HZ.o.drew⟩
 |true=>
  cases tk with
  |false=>
   go_upto_region 10 with (fail);clear k0 k1 k2 k3 k4 k5 k6 j4 j5 j7 j8 jh;refine wp_region_noPanic ?_;refine wp_region_held_drew (S:=fun w'=>w'.cell? ⟨q6,0,none⟩=some (.int .i64 y.id.1)/\w'.cell? ⟨q6,1,none⟩=some (.int .i64 y.id.2)/\w'.cell? ⟨q6,2,none⟩=some (.bool y.dir)/\w'.cell? ⟨q6,3,none⟩=some (.int .i64 x.par.1)/\w'.cell? ⟨q6,4,none⟩=some (.int .i64 x.par.2)/\w'.cell? ⟨q6,5,none⟩=some (.string (bs x.nm))/\w'.cell? ⟨q6,6,none⟩=some (.string (bs y.mf))/\
     w'.cell? ⟨g,o+4,none⟩=some (.int .i64 x.node.1)/\w'.cell? ⟨g,o+5,none⟩=some (.int .i64 x.node.2)/\w'.cell? ⟨g,o+7,none⟩=some (.int .i64 x.par.1)/\w'.cell? ⟨g,o+8,none⟩=some (.int .i64 x.par.2)/\w'.cell? ⟨g,o+18,none⟩=some (.bool true)) (by kernel_rfl) (QT _ true iB.o.drew (sW.o.below iB.o.drew.below)) (fun dW=>?_)
   refine wpAnyH_take (i:=0) (v:=?_) rfl (by kernel_rfl) (by kernel_rfl) (by kernel_rfl) (fun _ _ _ h=>h) (Or.inl ⟨by first|(with_reducible rfl)|kernel_rfl,?_⟩) dW ?_
   rotate_left
   ·(intro w gF;(try dsimp only at gF);go_simp;first|done|with_reducible rfl)
   (try simp only [Act.put,aM,aJ,aL,aH,aD,aF])
   refine wpAnyH_take (i:=1) (v:=?_) rfl (by kernel_rfl) (by kernel_rfl) (by kernel_rfl) (fun _ _ _ h=>h) (Or.inl ⟨by first|(with_reducible rfl)|kernel_rfl,?_⟩) dW ?_
   rotate_left
   ·(intro w gF;(try dsimp only at gF);go_simp;first|done|with_reducible rfl)
   (try simp only [Act.put,aM,aJ,aL,aH,aD,aF])
   refine wpAnyH_take (i:=2) (v:=?_) rfl (by kernel_rfl) (by kernel_rfl) (by kernel_rfl) (fun _ _ _ h=>h) (Or.inl ⟨by first|(with_reducible rfl)|kernel_rfl,?_⟩) dW ?_
   rotate_left
   ·(intro w gF;(try dsimp only at gF);go_simp;first|done|with_reducible rfl)
   (try simp only [Act.put,aM,aJ,aL,aH,aD,aF])
   refine wpAnyH_take (i:=3) (v:=?_) rfl (by kernel_rfl) (by kernel_rfl) (by kernel_rfl) (fun _ _ _ h=>h) (Or.inl ⟨by first|(with_reducible rfl)|kernel_rfl,?_⟩) dW ?_
   rotate_left
   ·(intro w gF;(try dsimp only at gF);go_simp;first|done|with_reducible rfl)
   (try simp only [Act.put,aM,aJ,aL,aH,aD,aF])
   refine wpAnyH_take (i:=4) (v:=?_) rfl (by kernel_rfl) (by kernel_rfl) (by kernel_rfl) (fun _ _ _ h=>h) (Or.inl ⟨by first|(with_reducible rfl)|kernel_rfl,?_⟩) dW ?_
   rotate_left
   ·(intro w gF;(try dsimp only at gF);go_simp;first|done|with_reducible rfl)
   (try simp only [Act.put,aM,aJ,aL,aH,aD,aF])
   refine wpAnyH_take (i:=5) (v:=?_) rfl (by kernel_rfl) (by kernel_rfl) (by kernel_rfl) (fun _ _ _ h=>h) (Or.inl ⟨by first|(with_reducible rfl)|kernel_rfl,?_⟩) dW ?_
   rotate_left
   ·(intro w gF;(try dsimp only at gF);go_simp;first|done|with_reducible rfl)
   (try simp only [Act.put,aM,aJ,aL,aH,aD,aF])
   refine wpAnyH_take (i:=6) (v:=?_) rfl (by kernel_rfl) (by kernel_rfl) (by kernel_rfl) (fun _ _ _ h=>h) (Or.inl ⟨by first|(with_reducible rfl)|kernel_rfl,?_⟩) dW ?_
   rotate_left
   ·(intro w gF;(try dsimp only at gF);go_simp;first|done|with_reducible rfl)
   (try simp only [Act.put,aM,aJ,aL,aH,aD,aF])
   refine wpAnyH_take (i:=7) (v:=?_) rfl (by kernel_rfl) (by kernel_rfl) (by kernel_rfl) (fun _ _ _ h=>h) (Or.inl ⟨by first|(with_reducible rfl)|kernel_rfl,?_⟩) dW ?_
   rotate_left
   ·(intro w gF;(try dsimp only at gF);go_simp;first|done|with_reducible rfl)
   (try simp only [Act.put,aM,aJ,aL,aH,aD,aF])
   refine wpAnyH_take (i:=8) (v:=?_) rfl (by kernel_rfl) (by kernel_rfl) (by kernel_rfl) (fun _ _ _ h=>h) (Or.inl ⟨by first|(with_reducible rfl)|kernel_rfl,?_⟩) dW ?_
   rotate_left
   ·(intro w gF;(try dsimp only at gF);go_simp;first|done|with_reducible rfl)
   (try simp only [Act.put,aM,aJ,aL,aH,aD,aF])
   refine wpAnyH_take (i:=9) (v:=?_) rfl (by kernel_rfl) (by kernel_rfl) (by kernel_rfl) (fun _ _ _ h=>h) (Or.inl ⟨by first|(with_reducible rfl)|kernel_rfl,?_⟩) dW ?_
   rotate_left
   ·(intro w gF;(try dsimp only at gF);go_simp;first|done|with_reducible rfl)
   (try simp only [Act.put,aM,aJ,aL,aH,aD,aF])
   refine wpAnyH_take (i:=10) (v:=?_) rfl (by kernel_rfl) (by kernel_rfl) (by kernel_rfl) (fun _ _ _ h=>h) (Or.inl ⟨by first|(with_reducible rfl)|kernel_rfl,?_⟩) dW ?_
   rotate_left
   ·(intro w gF;(try dsimp only at gF);go_simp;first|done|with_reducible rfl)
   (try simp only [Act.put,aM,aJ,aL,aH,aD,aF])
   refine wpAnyH_take (i:=11) (v:=?_) rfl (by kernel_rfl) (by kernel_rfl) (by kernel_rfl) (fun _ _ _ h=>h) (Or.inl ⟨by first|(with_reducible rfl)|kernel_rfl,?_⟩) dW ?_
   rotate_left
   ·(intro w gF;(try dsimp only at gF);go_simp;first|done|with_reducible rfl)
   (try simp only [Act.put,aM,aJ,aL,aH,aD,aF])
   refine wpAnyH_ready (rs:=[12]) (by kernel_rfl) (by simp) ?_;refine AllReadyH.cons rfl (fun K hK=>?_) AllReadyH.nil;go_simp;refine (tc.o _ ((BF.o.below iB.o.below).below (aC _ _).drew)).mono ?_;rintro e w6 ⟨rfl,iW⟩;have nI:=dH (iB.o.drew.after iW);obtain ⟨r0,r1,r2,r3,r4,r5,r6⟩:=eU nI.o.b4;obtain ⟨g0,g1,g2,g3,g4,g5,g6⟩:=gC nI.o.b4;clear iW;refine hK.out _ _ (QT _ true nI.o (sW.o.below nI.o.below)) (fun dW=>?_);clear hK K
   (try simp only [Act.put,aM,aJ,aL,aH,aD,aF])
   refine wpAnyH_take (i:=13) (v:=?_) rfl (by kernel_rfl) (by kernel_rfl) (by kernel_rfl) (fun _ _ _ h=>h) (Or.inl ⟨by first|(with_reducible rfl)|kernel_rfl,?_⟩) dW ?_
   rotate_left
   ·(intro w gF;(try dsimp only at gF);go_simp;first|done|with_reducible rfl)
   (try simp only [Act.put,aM,aJ,aL,aH,aD,aF])
   refine wpAnyH_take (i:=14) (v:=?_) rfl (by kernel_rfl) (by kernel_rfl) (by kernel_rfl) (fun _ _ _ h=>h) (Or.inl ⟨by first|(with_reducible rfl)|kernel_rfl,?_⟩) dW ?_
   rotate_left
   ·(intro w gF;(try dsimp only at gF);go_simp;first|done|with_reducible rfl)
   (try simp only [Act.put,aM,aJ,aL,aH,aD,aF])
   refine wpAnyH_take (i:=15) (v:=undef) rfl (by kernel_rfl) (by kernel_rfl) (by kernel_rfl) (fun _ _ _ h=>h) (Or.inr ⟨by kernel_rfl,rfl⟩) dW ?_
   (try simp only [Act.put,aM,aJ,aL,aH,aD,aF])
   refine wpAnyH_take (i:=16) (v:=undef) rfl (by kernel_rfl) (by kernel_rfl) (by kernel_rfl) (fun _ _ _ h=>h) (Or.inr ⟨by kernel_rfl,rfl⟩) dW ?_
   (try simp only [Act.put,aM,aJ,aL,aH,aD,aF])
   refine wpAnyH_take (i:=17) (v:=undef) rfl (by kernel_rfl) (by kernel_rfl) (by kernel_rfl) (fun _ _ _ h=>h) (Or.inr ⟨by kernel_rfl,rfl⟩) dW ?_
   (try simp only [Act.put,aM,aJ,aL,aH,aD,aF])
   refine wpAnyH_take (i:=18) (v:=undef) rfl (by kernel_rfl) (by kernel_rfl) (by kernel_rfl) (fun _ _ _ h=>h) (Or.inr ⟨by kernel_rfl,rfl⟩) dW ?_
   (try simp only [Act.put,aM,aJ,aL,aH,aD,aF])
   refine wpAnyH_take (i:=19) (v:=undef) rfl (by kernel_rfl) (by kernel_rfl) (by kernel_rfl) (fun _ _ _ h=>h) (Or.inr ⟨by kernel_rfl,rfl⟩) dW ?_
   (try simp only [Act.put,aM,aJ,aL,aH,aD,aF])
   refine wpAnyH_take (i:=20) (v:=undef) rfl (by kernel_rfl) (by kernel_rfl) (by kernel_rfl) (fun _ _ _ h=>h) (Or.inr ⟨by kernel_rfl,rfl⟩) dW ?_
   (try simp only [Act.put,aM,aJ,aL,aH,aD,aF])
   refine wpAnyH_take (i:=21) (v:=undef) rfl (by kernel_rfl) (by kernel_rfl) (by kernel_rfl) (fun _ _ _ h=>h) (Or.inr ⟨by kernel_rfl,rfl⟩) dW ?_
   (try simp only [Act.put,aM,aJ,aL,aH,aD,aF])
   refine wpAnyH_take (i:=22) (v:=undef) rfl (by kernel_rfl) (by kernel_rfl) (by kernel_rfl) (fun _ _ _ h=>h) (Or.inr ⟨by kernel_rfl,rfl⟩) dW ?_
   (try simp only [Act.put,aM,aJ,aL,aH,aD,aF])
   refine wpAnyH_take (i:=23) (v:=undef) rfl (by kernel_rfl) (by kernel_rfl) (by kernel_rfl) (fun _ _ _ h=>h) (Or.inr ⟨by kernel_rfl,rfl⟩) dW ?_
   (try simp only [Act.put,aM,aJ,aL,aH,aD,aF])
   refine wpAnyH_take (i:=24) (v:=undef) rfl (by kernel_rfl) (by kernel_rfl) (by kernel_rfl) (fun _ _ _ h=>h) (Or.inr ⟨by kernel_rfl,rfl⟩) dW ?_
   (try simp only [Act.put,aM,aJ,aL,aH,aD,aF])
   refine wpAnyH_take (i:=25) (v:=undef) rfl (by kernel_rfl) (by kernel_rfl) (by kernel_rfl) (fun _ _ _ h=>h) (Or.inr ⟨by kernel_rfl,rfl⟩) dW ?_
   (try simp only [Act.put,aM,aJ,aL,aH,aD,aF])
   refine wpAnyH_take (i:=26) (v:=undef) rfl (by kernel_rfl) (by kernel_rfl) (by kernel_rfl) (fun _ _ _ h=>h) (Or.inr ⟨by kernel_rfl,rfl⟩) dW ?_
   (try simp only [Act.put,aM,aJ,aL,aH,aD,aF])
   refine wpAnyH_take (i:=27) (v:=undef) rfl (by kernel_rfl) (by kernel_rfl) (by kernel_rfl) (fun _ _ _ h=>h) (Or.inr ⟨by kernel_rfl,rfl⟩) dW ?_
   (try simp only [Act.put,aM,aJ,aL,aH,aD,aF])
   refine wpAnyH_take (i:=28) (v:=?_) rfl (by kernel_rfl) (by kernel_rfl) (by kernel_rfl) (fun _ _ _ h=>h) (Or.inl ⟨by first|(with_reducible rfl)|kernel_rfl,?_⟩) dW ?_
   rotate_left
   ·(intro w gF;(try dsimp only at gF);go_simp;first|done|with_reducible rfl)
   (try simp only [Act.put,aM,aJ,aL,aH,aD,aF])
   refine wpAnyH_ready (rs:=[29]) (by kernel_rfl) (by simp) ?_;refine AllReadyH.cons rfl (fun K hK=>?_) AllReadyH.nil;go_simp;refine hK.out _ _ ((QT _ true nI.o.last (sW.o.below nI.o.last.below))) (fun dW=>?_);clear hK K
   (try simp only [Act.put,aM,aJ,aL,aH,aD,aF])
   refine wpAnyH_take (i:=30) (v:=?_) rfl (by kernel_rfl) (by kernel_rfl) (by kernel_rfl) (fun _ _ _ h=>h) (Or.inl ⟨by first|(with_reducible rfl)|kernel_rfl,?_⟩) dW ?_
   rotate_left
   ·(intro w gF;(try dsimp only at gF);go_simp;first|done|with_reducible rfl)
   (try simp only [Act.put,aM,aJ,aL,aH,aD,aF])
   refine wpAnyH_done (by kernel_rfl) ?_ _;refine NoPanic.normal ?_;have z9:=nI.o.last;obtain ⟨t0,t1,t2,t3,t4,t5,t6⟩:=eU z9.b4;have hz0:=z9.below;unfold jI at hz0 t0 t1 t2 t3 t4 t5 t6;have HZ:=dH hz0;clear z9 hz0 r0 r1 r2 r3 r4 r5 r6 g0 g1 g2 g3 g4 g5 g6;go_wp2_with fail;exact bodyPost_ret (v:=.tuple #[.agg #[.int .i64 y.id.1,.int .i64 y.id.2,.bool y.dir,.int .i64 x.par.1,.int .i64 x.par.2,.string (bs x.nm),.string (bs y.mf)],.bool false]) (by simp [results,results91,go_sem,t0,t1,t2,t3,t4,t5,t6]) rfl ⟨by simp,HZ.o⟩
  |true=>
   go_upto_region 10 with (fail);clear k0 k1 k2 k3 k4 k5 k6 j4 j5 j7 j8 jh;go_region_held3 (fun w'=>w'.cell? ⟨q6,0,none⟩=some (.int .i64 y.id.1)/\w'.cell? ⟨q6,1,none⟩=some (.int .i64 y.id.2)/\w'.cell? ⟨q6,2,none⟩=some (.bool y.dir)/\w'.cell? ⟨q6,3,none⟩=some (.int .i64 x.par.1)/\w'.cell? ⟨q6,4,none⟩=some (.int .i64 x.par.2)/\w'.cell? ⟨q6,5,none⟩=some (.string (bs x.nm))/\w'.cell? ⟨q6,6,none⟩=some (.string (bs y.mf))/\
     w'.cell? ⟨g,o+4,none⟩=some (.int .i64 x.node.1)/\w'.cell? ⟨g,o+5,none⟩=some (.int .i64 x.node.2)/\w'.cell? ⟨g,o+7,none⟩=some (.int .i64 x.par.1)/\w'.cell? ⟨g,o+8,none⟩=some (.int .i64 x.par.2)/\w'.cell? ⟨g,o+18,none⟩=some (.bool true))
    (first|with_reducible exact QT _ true sV.o (sW.o.below sV.o.below)|exact QT _ true sV.o.last (sW.o.below sV.o.last.below)|with_reducible exact QT _ true nI.o (sW.o.below nI.o.below)|exact QT _ true iB.o.drew (sW.o.below iB.o.drew.below))
    (first
     |(go_at_call 149;refine (tc.o _ ((BF.o.below iB.o.below).below (aC _ _).drew)).mono ?_;rintro e w6 ⟨rfl,iW⟩;have nI:=dH (iB.o.drew.after iW);clear iW)
     |(go_at_call 150;refine (qM.o _ (BF.o.below nI.o.below)).mono ?_;rintro e w7 ⟨rfl,lZ⟩;have sV:=dH (nI.o.after lZ);obtain ⟨r0,r1,r2,r3,r4,r5,r6⟩:=eU sV.o.b4;obtain ⟨g0,g1,g2,g3,g4,g5,g6⟩:=gC sV.o.b4;clear lZ))
   have z9:=sV.o.last;obtain ⟨t0,t1,t2,t3,t4,t5,t6⟩:=eU z9.b4;have hz0:=z9.below;unfold jI at hz0 t0 t1 t2 t3 t4 t5 t6;have HZ:=dH hz0;clear z9 hz0 r0 r1 r2 r3 r4 r5 r6 g0 g1 g2 g3 g4 g5 g6;go_wp2_with fail;exact bodyPost_ret (v:=.tuple #[.agg #[.int .i64 y.id.1,.int .i64 y.id.2,.bool y.dir,.int .i64 x.par.1,.int .i64 x.par.2,.string (bs x.nm),.string (bs y.mf)],.bool (!bl)]) (by simp [results,results91,go_sem,t0,t1,t2,t3,t4,t5,t6]) rfl ⟨by simp,HZ.o⟩
theorem MD (d:Rec) (g o p m:Nat) (v:Value) (r:Int) (es:List Nd) (w:World) (hd:fG w g o d) (h:kH w p m v r es) (hm:es.length<=1000000):
  Calls prog 91 #[.pointer (some ⟨p,0,none⟩),.pointer (some ⟨g,o,none⟩)] w fun e w'=>
   e=.returned (.tuple #[nv (fQ es d.op d.was d.had).1,.bool (fQ es d.op d.was d.had).2])/\Below w.heap.size w w':=by
 obtain ⟨x,y,had,made⟩:=d;by_cases h4:x.kind=4
 ·exact JJ x y had made h4 g o p m v r es w hd h hm
 by_cases h3:x.kind=3
 ·exact JK x y had made h3 h4 g o p m v r es w hd h hm
 by_cases h1:x.kind=1
 ·exact JM x y had made h1 h3 h4 g o p m v r es w hd h hm
 by_cases h2:x.kind=2
 ·exact JN x y had made h2 g o p m v r es w hd h hm
 exact JL x y had made h1 h2 h3 h4 g o p m v r es w hd h hm
end
end Go.Proofs.YtgdaahffmcfhpaaGreatDoor
