/- Lemmas on the way: VSd VSu VSc VLg VIn VMr VMq VMv. -/
import Derived.Test.YtgdaahffmcfhpaaGreatDoorO25
set_option maxRecDepth 100000
set_option maxHeartbeats 8000000
namespace Go.Proofs.YtgdaahffmcfhpaaGreatDoor
open aA
open Tryz
section
set_option linter.unusedSimpArgs false
set_option linter.unusedVariables false
open Go.RowKit
attribute [local go_sem] dR dO dS dP
variable {es xs:List Nd}
theorem sB{s:St} (h:er s xs=true):(eX s xs).id=s:=by
 unfold er at h;unfold eX;cases hf:xs.find? (eZ s) with
 |none=>rw [hf] at h;cases h
 |some a=>
  have:=List.find?_some hf;simpa [eZ] using this
def AY (es:List Nd) (x:dX):Rec:=⟨x,eX x.node es,er x.node es,(fZ es x (eX x.node es) (er x.node es)).2⟩
def uQ (es:List Nd) (x:dX):List Nd:=if (AY es x).made then jF es (fZ es x (eX x.node es) (er x.node es)).1 else es
theorem Dr {x:dX} (h:(fZ es x (eX x.node es) (er x.node es)).2=true):(fZ es x (eX x.node es) (er x.node es)).1.id=x.node:=by
 unfold fZ at h ⊢;by_cases h1:x.kind=1
 ·rw [if_pos h1]
 rw [if_neg h1] at h ⊢;by_cases h2:x.kind=2
 ·rw [if_pos h2] at h ⊢
  simp only [cO] at h;exact sB h.1.1
 rw [if_neg h2] at h ⊢;by_cases h3:x.kind=3
 ·rw [if_pos h3] at h ⊢
  simp only [cO] at h;exact sB h.1
 rw [if_neg h3] at h ⊢;by_cases h4:x.kind=4
 ·rw [if_pos h4] at h ⊢
  exact sB h
 rw [if_neg h4] at h;cases h
structure jd (w w':World) (g o:Nat) (news:List Value):Prop where
 at_:∀j u,news[j]? =some u->w'.cell? ⟨g,o+j,none⟩=some u
 o:∀j,(j < o\/o+news.length<=j)->w'.cell? ⟨g,j,none⟩=w.cell? ⟨g,j,none⟩
 frozen:∀j,w'.frozen? ⟨g,j,none⟩=w.frozen? ⟨g,j,none⟩
 grown:w.grownBy w' (some g)
theorem jd.cells (w:World) (g o:Nat) (news:List Value) (hs:∀j,j < news.length->(w.cell? ⟨g,o+j,none⟩).isSome=true):jd w (w.setCells g o news) g o news:=
 ⟨λj u hu=>by
  obtain ⟨hj,rfl⟩:=cR.1 hu;exact World.cell?_setCells_in g news o w hs j hj,
  λj hj=>World.cell?_setCells_out _ _ _ _ _ (λ_ _=>hj),
  λj=>World.frozen?_setCells _ _ _ _ _,
  ⟨fu _ _ _ _,eS _ _ _ _,fV _ _ _ _,by rw [eH];exact aB _,λi hi hne=>World.heap_setCells_other w g _ _ hi (λe=>hne (by rw [e]))⟩⟩
variable {w w' w1 w2:World} {g m j:Nat}
theorem jd.drew {o:Nat} {news:List Value} (h:jd w w' g o news):jd w w'.drew g o news:=⟨h.at_,h.o,h.frozen,kQ h.grown⟩
variable {d:Rec} {y:Nd}
theorem fP.turn {o:Nat} (h:fP w g o d) {hd:Bool} (hw:jd w w' g (o+11) (nc y++[.bool hd])):fP w' g o ⟨d.op,y,hd,d.made⟩:=
 ⟨aN h.1 hw.grown.size,λj u hu=>by
  match j,hu with
  |0,hu=>exact (hw.o _ (.inl (by omega))).trans (h.2 0 u hu)
  |1,hu=>exact (hw.o _ (.inl (by omega))).trans (h.2 1 u hu)
  |2,hu=>exact (hw.o _ (.inl (by omega))).trans (h.2 2 u hu)
  |3,hu=>exact (hw.o _ (.inl (by omega))).trans (h.2 3 u hu)
  |4,hu=>exact (hw.o _ (.inl (by omega))).trans (h.2 4 u hu)
  |5,hu=>exact (hw.o _ (.inl (by omega))).trans (h.2 5 u hu)
  |6,hu=>exact (hw.o _ (.inl (by omega))).trans (h.2 6 u hu)
  |7,hu=>exact (hw.o _ (.inl (by omega))).trans (h.2 7 u hu)
  |8,hu=>exact (hw.o _ (.inl (by omega))).trans (h.2 8 u hu)
  |9,hu=>exact (hw.o _ (.inl (by omega))).trans (h.2 9 u hu)
  |10,hu=>exact (hw.o _ (.inl (by omega))).trans (h.2 10 u hu)
  |11,hu=>exact (bk o 11 0) ▸ hw.at_ 0 u hu
  |12,hu=>exact (bk o 11 1) ▸ hw.at_ 1 u hu
  |13,hu=>exact (bk o 11 2) ▸ hw.at_ 2 u hu
  |14,hu=>exact (bk o 11 3) ▸ hw.at_ 3 u hu
  |15,hu=>exact (bk o 11 4) ▸ hw.at_ 4 u hu
  |16,hu=>exact (bk o 11 5) ▸ hw.at_ 5 u hu
  |17,hu=>exact (bk o 11 6) ▸ hw.at_ 6 u hu
  |18,hu=>exact (bk o 11 7) ▸ hw.at_ 7 u hu
  |19,hu=>exact (hw.o _ (.inr (by show o+11+8<=_;omega))).trans (h.2 19 u hu)
  |k+20,hu=>cases hu⟩
theorem fP.mark {o:Nat} (h:fP w g o d) {b:Bool} (hw:jd w w' g (o+19) [.bool b]):fP w' g o ⟨d.op,d.was,d.had,b⟩:=
 ⟨aN h.1 hw.grown.size,λj u hu=>by
  match j,hu with
  |0,hu=>exact (hw.o _ (.inl (by omega))).trans (h.2 0 u hu)
  |1,hu=>exact (hw.o _ (.inl (by omega))).trans (h.2 1 u hu)
  |2,hu=>exact (hw.o _ (.inl (by omega))).trans (h.2 2 u hu)
  |3,hu=>exact (hw.o _ (.inl (by omega))).trans (h.2 3 u hu)
  |4,hu=>exact (hw.o _ (.inl (by omega))).trans (h.2 4 u hu)
  |5,hu=>exact (hw.o _ (.inl (by omega))).trans (h.2 5 u hu)
  |6,hu=>exact (hw.o _ (.inl (by omega))).trans (h.2 6 u hu)
  |7,hu=>exact (hw.o _ (.inl (by omega))).trans (h.2 7 u hu)
  |8,hu=>exact (hw.o _ (.inl (by omega))).trans (h.2 8 u hu)
  |9,hu=>exact (hw.o _ (.inl (by omega))).trans (h.2 9 u hu)
  |10,hu=>exact (hw.o _ (.inl (by omega))).trans (h.2 10 u hu)
  |11,hu=>exact (hw.o _ (.inl (by omega))).trans (h.2 11 u hu)
  |12,hu=>exact (hw.o _ (.inl (by omega))).trans (h.2 12 u hu)
  |13,hu=>exact (hw.o _ (.inl (by omega))).trans (h.2 13 u hu)
  |14,hu=>exact (hw.o _ (.inl (by omega))).trans (h.2 14 u hu)
  |15,hu=>exact (hw.o _ (.inl (by omega))).trans (h.2 15 u hu)
  |16,hu=>exact (hw.o _ (.inl (by omega))).trans (h.2 16 u hu)
  |17,hu=>exact (hw.o _ (.inl (by omega))).trans (h.2 17 u hu)
  |18,hu=>exact (hw.o _ (.inl (by omega))).trans (h.2 18 u hu)
  |19,hu=>exact hw.at_ 0 u hu
  |k+20,hu=>cases hu⟩
structure jB (w w':World) (g m:Nat):Prop where
 os:w'.os=w.os
 tape:w'.tape=w.tape
 output:w'.output=w.output
 size:w.heap.size<=w'.heap.size
 block:∀i,i < w.heap.size->i≠g->i≠m->w'.heap[i]? =w.heap[i]?
theorem jB.refl (w:World) (g m:Nat):jB w w g m:=⟨rfl,rfl,rfl,aB _,λ_ _ _ _=>rfl⟩
theorem jB.grown1 (h:jB w w1 g m) (k:w1.grownBy w2 (some g)):jB w w2 g m:=
 ⟨k.os.trans h.os,k.tape.trans h.tape,k.output.trans h.output,aI h.size k.size,λi hi h1 h2=>(k.block i (aN hi h.size) (λe=>h1 (aX e))).trans (h.block i hi h1 h2)⟩
theorem jB.grown2 (h:jB w w1 g m) (k:w1.grownBy w2 (some m)):jB w w2 g m:=
 ⟨k.os.trans h.os,k.tape.trans h.tape,k.output.trans h.output,aI h.size k.size,λi hi h1 h2=>(k.block i (aN hi h.size) (λe=>h2 (aX e))).trans (h.block i hi h1 h2)⟩
theorem jB.below (h:jB w w1 g m) (k:Below w1 w1 w2):jB w w2 g m:=h.grown1 (fC k _)
theorem jB.trans {w w1 w2:World} {g m:Nat} (h:jB w w1 g m) (k:jB w1 w2 g m):jB w w2 g m:=
 ⟨k.os.trans h.os,k.tape.trans h.tape,k.output.trans h.output,aI h.size k.size,λi hi h1 h2=>(k.block i (aN hi h.size) h1 h2).trans (h.block i hi h1 h2)⟩
theorem kY.grown {w w':World} {p m g:Nat} {v:Value} {r:Int} {es:List Nd} (h:kY w p m v r es) (k:w.grownBy w' (some g)) (hp:p≠g) (hm:m≠g):kY w' p m v r es:=⟨h.blk.grown k (λe=>hp (aX e)),h.map.grown k (λe=>hm (aX e))⟩
theorem ow (d:Rec):(rc d).length=20:=rfl
theorem Is (y:Nd) (b:Bool):(nc y++[Value.bool b]).length=8:=rfl
theorem fP.some11 {o:Nat} (h:fP w g o d) {b:Bool} (hj:j < (nc y++[Value.bool b]).length):(w.cell? ⟨g,o+11+j,none⟩).isSome=true:=by
 rw [Is] at hj;have hl:11+j < (rc d).length:=by rw [ow];omega
 rw [bk,h.2 (11+j) _ (bh hl)];rfl
def GK (w:World) (g o:Nat) (x:Nd) (b:Bool):World:=(((((((w.setCell (Qc g o) x.id.1).setCell ⟨g,o+1,none⟩ x.id.2).setCell ⟨g,o+2,none⟩ x.dir).setCell ⟨g,o+3,none⟩ x.par.1).setCell ⟨g,o+4,none⟩ x.par.2).setCell ⟨g,o+5,none⟩ x.nm).setCell ⟨g,o+6,none⟩ x.mf).setCell ⟨g,o+7,none⟩ b
theorem Bj (w:World) (g o:Nat) (x:Nd) (b:Bool):GK w g o x b=w.setCells g o (nc x++[.bool b]):=rfl
theorem fP.wrote8 {o:Nat} (h:fP w g o d) (y:Nd) (b:Bool):jd w (GK w g (o+11) y b).drew g (o+11) (nc y++[.bool b]):=by
 obtain ⟨l,hl⟩:=dG (nc y++[Value.bool b]);have hs:∀j,j < l.length->(w.cell? ⟨g,o+11+j,none⟩).isSome=true:=λj hj=>h.some11 (y:=y) (b:=b) (by rw [<-hl];exact hj)
 rw [Bj,<-hl];have h1:=jd.cells w g (o+11) l hs;exact h1.drew
structure vC (w w':World) (g o p m:Nat) (v:Value) (r:Int) (d:Rec) (es:List Nd):Prop where
 rec_:fP w' g o d
 o:∀j,(j < o+11\/o+20<=j)->w'.cell? ⟨g,j,none⟩=w.cell? ⟨g,j,none⟩
 frozen:∀j,w'.frozen? ⟨g,j,none⟩=w.frozen? ⟨g,j,none⟩
 stt:kY w' p m v r es
 keep:jB w w' g m
theorem jd.one (w:World) (g o:Nat) (u:Value) (hs:(w.cell? (Qc g o)).isSome=true):jd w (w.setCell (Qc g o) u) g o [u]:=by
 have h1:=jd.cells w g o [u] (λj hj=>by
  obtain rfl:j=0:=by simpa using hj
  exact hs)
 exact h1
theorem vC.start{w3:World} {o p:Nat} {v:Value} {r:Int} {d0 d1:Rec} {had:Bool} (h0:fP w g o d0) (hS:kY w p m v r es) (hp:p≠g) (Mc:m≠g) (hw:jd w w1 g (o+11) (nc y++[.bool had]))
  (h1:fP w1 g o d1) (hb:Below w1 w1 w3) (mk:Bool):vC w (w3.setCell ⟨g,o+19,none⟩ mk) g o p m v r ⟨d1.op,d1.was,d1.had,mk⟩ es:=by
 have h3:=h1.below hb;have hW:=jd.one w3 g (o+19) (.bool mk) (by rw [h3.had_.2];rfl);have k1:jB w w1 g m:=(jB.refl w g m).grown1 hw.grown;refine ⟨h3.mark hW,λj hj=>?_,λj=>?_,((hS.grown hw.grown hp Mc).below hb).grown hW.grown hp Mc,(k1.below hb).grown1 hW.grown⟩
 ·rw [hW.o j (by rcases hj with h|h;exact .inl (by omega);exact .inr (by show o+19+1<=j;omega)),hb.cell (p:=Qc g j) h1.1]
  exact hw.o j (by rcases hj with h|h;exact .inl h;exact .inr (by rw [Is];omega))
 ·rw [hW.frozen,hb.frozen (p:=Qc g j) h1.1,hw.frozen]
theorem vC.map {w w4 w5:World} {g o p m:Nat} {v:Value} {r:Int} {d:Rec} {es es':List Nd} (h:vC w w4 g o p m v r d es) (Mc:m≠g) (hk:w4.grownBy w5 (some m)) (he:gd w5 m es'):vC w w5 g o p m v r d es':=by
 have hb:w5.heap[g]? =w4.heap[g]?:=hk.block g h.rec_.1 (λe=>Mc (aX e).symm);have hc:∀j,w5.cell? ⟨g,j,none⟩=w4.cell? ⟨g,j,none⟩:=λj=>aM (a:=⟨g,j,none⟩) hb
 have hz:∀j,w5.frozen? ⟨g,j,none⟩=w4.frozen? ⟨g,j,none⟩:=λj=>World.frozen?_of_block (a:=⟨g,j,none⟩) hb
 exact ⟨⟨aN h.rec_.1 hk.size,λj u hu=>by rw [hc];exact h.rec_.2 j u hu⟩,λj hj=>by rw [hc];exact h.o j hj,λj=>by rw [hz];exact h.frozen j,
  ⟨h.stt.blk.grown hk (λe=>by have:=h.stt.map.ne_blk h.stt.blk;exact this (aX e).symm),he⟩,h.keep.grown2 hk⟩
theorem vC.drew {w w4:World} {g o p m:Nat} {v:Value} {r:Int} {d:Rec} {es:List Nd} (h:vC w w4 g o p m v r d es):vC w w4.drew g o p m v r d es:=
 ⟨h.rec_.below (aC _ _).drew,h.o,h.frozen,h.stt.below (aC _ _).drew,h.keep.below (aC _ _).drew⟩
theorem Zx (d:Rec) (g o p m:Nat) (v:Value) (r:Int) (es:List Nd) (w:World) (hd:fP w g o d) (hf:∀j,j < 20->w.frozen? ⟨g,o+j,none⟩=false) (hp:p≠g) (Mc:m≠g) (h:kY w p m v r es) (hm:es.length<=1000000):
  Calls prog 40 #[Qp p,.pointer (some ⟨g,o,none⟩)] w λe w'=>e=.returned (.tuple #[])/\vC w w' g o p m v r (AY es d.op) (uQ es d.op):=by
 obtain ⟨x,y0,agY,agj⟩:=d;obtain ⟨y,hy⟩:=dG (eX x.node es);obtain ⟨had,zc⟩:∃b,b=er x.node es:=⟨_,rfl⟩;have c1:=h.c1;obtain ⟨o0,o1,o2,o3,o4,o5,o6,o7,o8,o9,sY⟩:=hd.op_;obtain ⟨a0,a1,a2,a3,a4,a5,a6⟩:=hd.was_;obtain ⟨hh,sZ⟩:=hd.had_;have f11:=hf 11 (by omega);have f12:=hf 12 (by omega);have f13:=hf 13 (by omega);have f14:=hf 14 (by omega);have f15:=hf 15 (by omega);have f16:=hf 16 (by omega);have f17:=hf 17 (by omega);have f18:=hf 18 (by omega);have hl:(Instr.lookup 63 (.map (some m)) (sv x.node) true).run prog w.drew=.ok (.tuple #[nv y,had]) w.drew:=by
  rw [hy,zc];exact (h.map.below (w':=w.drew) (aC _ w).drew).look2 x.node
 unfold sv nv at hl;have HS:=dL h;have HD:=dL hd;have HF:=dL hf;have HY:=dL hy;have HH:=dL zc;simp only at o4 o5;clear h hd hf hy zc o0 o1 o2 o3 o6 o7 o8 o9 sY;go_enter func40,ntmps40;go_upto_region 0 with (fail);go_region;obtain ⟨w1,hw1⟩:=dG (((((((((w.setCell ⟨g,o+11,none⟩ y.id.1).setCell ⟨g,o+11+1,none⟩ y.id.2).setCell ⟨g,o+11+2,none⟩ y.dir).setCell ⟨g,o+11+3,none⟩ y.par.1).setCell ⟨g,o+11+4,none⟩ y.par.2).setCell ⟨g,o+11+5,none⟩ y.nm).setCell ⟨g,o+11+6,none⟩ y.mf).setCell ⟨g,o+18,none⟩ had).drew);rw [<-hw1];have je:jd w w1 g (o+11) (nc y++[.bool had]):=by
  have h1:=HD.o.wrote8 y had;unfold GK at h1;simp only [bk,Nat.reduceAdd] at h1 hw1 ⊢;rw [hw1];exact h1
 clear hw1 hl c1 o4 o5 a0 a1 a2 a3 a4 a5 a6 hh sZ f11 f12 f13 f14 f15 f16 f17 f18;have oB:=HD.o.turn je;have vR:=HS.o.grown je.grown hp Mc;obtain ⟨n,hn⟩:=dG ((fZ es x y had).1);obtain ⟨mk,hmk⟩:∃b,b=(fZ es x y had).2:=⟨_,rfl⟩;have hN:=O2 _ g o p m v r es w1 oB vR hm;simp only at hN;rw [<-hn,<-hmk] at hN;unfold nv at hN;have vN:=dL hN;have CV:=dL oB;have rJ:=dL vR;have yT:=dL je;have HN:=dL hn;have HM:=dL hmk;clear hN oB vR je hn hmk;go_wp2_with fail;refine vN.o.mono ?_;rintro e w2 ⟨rfl,dY⟩;have dn:Below w1 w1 (w2.alloc (.cells (nc n).toArray 38)):=dY.alloc dY.size _;obtain ⟨hh,sZ⟩:=(CV.o.below dn).had_;have f19:(w2.alloc (.cells (nc n).toArray 38)).frozen? ⟨g,o+19,none⟩=false:=by
  rw [dn.frozen (p:=⟨g,o+19,none⟩) CV.o.1,yT.o.frozen];exact HF.o 19 (by omega)
 have eC:=dL dn;have n7:=(Blk.new w2 38 (nc n).toArray);have HN7:=dL n7;have hgn:g≠w2.heap.size:=λe=>by have h1:=CV.o.1;have h2:=dY.size;omega
 unfold nc at sZ f19;clear dY dn hh n7;have hR:AY es x= ⟨x,y,had,mk⟩:=by unfold AY;rw [<-HY.o,<-HH.o,<-HM.o]
 have hE:uQ es x=if mk then jF es n else es:=by unfold uQ;rw [hR,<-HY.o,<-HH.o,<-HN.o]
 have HR:=dL hR;have HE:=dL hE;have RJ:=vC.start HD.o HS.o hp Mc yT.o CV.o eC.o mk;unfold nc at RJ;simp only at RJ;clear hR hE;cases mk with
 |false=>
  have sP:=dL RJ;clear RJ;go_wp2_with fail;go_end0;refine ⟨rfl,?_⟩;rw [HR.o,HE.o];exact sP.o
 |true=>
  have hid:n.id=x.node:=by
   have h1:=HM.o;rw [HN.o,HY.o,HH.o];exact Dr (by rw [<-HY.o,<-HH.o,<-h1])
  have Tl:=dL hid;clear hid;go_upto_region 4 with (fail);obtain ⟨w4,rE⟩:=dG ((w2.alloc (.cells #[n.id.1,n.id.2,n.dir,n.par.1,n.par.2,n.nm,n.mf] 38)).setCell ⟨g,o+19,none⟩ true);rw [<-rE] at RJ;rw [<-rE];have VM:Blk w4 w2 38 (nc n).toArray:=by rw [rE];exact Blk.far HN7.o (λe=>hgn e.symm) _
  obtain ⟨n0,n1,n2,n3,n4,n5,n6⟩:=eW VM;obtain ⟨w5,hrun,FB,IW,_⟩:=(RJ.drew.stt.map).put n;have c1:=RJ.stt.c1;obtain ⟨_,_,_,_,o4,o5,_,_,_,_,_⟩:=RJ.rec_.op_;have r9:=dL (RJ.drew.map Mc IW FB);rw [Tl.o] at hrun;unfold sv nv at hrun;simp only at o4 o5;clear rE RJ VM FB IW sZ f19;go_region;all_goals
   go_end0;refine ⟨rfl,?_⟩;rw [HR.o,HE.o];exact r9.o
end
section
open Go.RowKit
attribute [local go_sem] dR dO dS dP
def Iu (es:List Nd) (d:Rec):List Nd:=if d.made then (if d.had then jF es d.was else DR es d.op.node) else es
theorem SQ (d:Rec) (g o p m:Nat) (v:Value) (r:Int) (es:List Nd) (w:World) (hd:fP w g o d) (hid:d.had=true->d.was.id=d.op.node) (h:kY w p m v r es):
  Calls prog 38 #[Qp p,.pointer (some ⟨g,o,none⟩)] w λe w'=>e=.returned (.tuple #[])/\kY w' p m v r (Iu es d)/\w.grownBy w' (some m):=by
 obtain ⟨x,y,had,made⟩:=d;have c1:=h.c1;obtain ⟨o0,o1,o2,o3,o4,o5,o6,o7,o8,o9,sY⟩:=hd.op_;obtain ⟨a0,a1,a2,a3,a4,a5,a6⟩:=hd.was_;obtain ⟨hh,sZ⟩:=hd.had_;have JX:p≠m:=λe=>h.map.ne_blk h.blk e.symm
 have HS:=dL h;have HI:=dL hid;unfold Iu;simp only at*;cases made with
 |false=>
  clear hid h hd o0 o1 o2 o3 o6 o7 o8 o9 sY;go_enter func38,ntmps38;go_wp2_with fail;go_end0;exact ⟨rfl,HS.o,dz _ _⟩
 |true=>
  cases had with
  |true=>
   obtain ⟨w5,hrun,FB,IW,_⟩:=(h.map.below (w':=w.drew) (aC _ w).drew).put y;have HP:=dL (show kY w5 p m v r (jF es y) from ⟨(h.below (w':=w.drew) (aC _ w).drew).blk.grown IW (λe=>JX (aX e)),FB⟩);have HG:=dL (show w.grownBy w5 (some m) from fJ (kQ (dz w _)) IW);rw [HI.o rfl] at hrun;unfold sv nv at hrun;clear hid h hd FB IW o0 o1 o2 o3 o6 o7 o8 o9 sY;go_enter func38,ntmps38;go_upto_region 1 with (fail);go_region;all_goals
    go_wp2_with fail;go_end0;exact ⟨rfl,HP.o,HG.o⟩
  |false=>
   have Et:=λty=>(h.map.below (w':=w.drew) (aC _ w).drew).del x.node ty
   obtain ⟨w5,hrun,FB,IW,_⟩:=Et 0;have HP:=dL (show kY w5 p m v r (DR es x.node) from ⟨(h.below (w':=w.drew) (aC _ w).drew).blk.grown IW (λe=>JX (aX e)),FB⟩);have HG:=dL (show w.grownBy w5 (some m) from fJ (kQ (dz w _)) IW);unfold sv at hrun;clear hid h hd FB IW o0 o1 o2 o3 o6 o7 o8 o9 sY Et;go_enter func38,ntmps38;go_upto_region 3 with (fail);go_region;all_goals
    go_wp2_with fail;go_end0;exact ⟨rfl,HP.o,HG.o⟩
def tM (a b:Int):Int:=if a < b then -1 else if b < a then 1 else 0
theorem Bk (a:Int) (w:World):Calls prog 88 #[a] w λe w'=>e=.returned false/\w=w':=by
 have h:(a != a)=false:=by simp
 go_enter func88,ntmps88;go_wp2_with fail;go_ret;exact ⟨rfl,rfl⟩
theorem SR (a b:Int) (w:World):Calls prog 37 #[a,b] w λe w'=>e=.returned (.int .i64 (tM a b))/\w=w':=by
 unfold tM;by_cases h1:a < b
 ·have d1:decide (a < b)=true:=decide_eq_true h1
  rw [if_pos h1];go_enter func37,ntmps37;go_wp2_with (go_at_call 88;refine (Bk _ _).mono ?_;rintro e w' ⟨rfl,rfl⟩)
  go_ret;exact ⟨rfl,rfl⟩
 ·have d1:decide (a < b)=false:=decide_eq_false h1
  rw [if_neg h1];by_cases h2:b < a
  ·have d2:decide (a > b)=true:=decide_eq_true h2
   rw [if_pos h2];go_enter func37,ntmps37;go_wp2_with (go_at_call 88;refine (Bk _ _).mono ?_;rintro e w' ⟨rfl,rfl⟩)
   go_ret;exact ⟨rfl,rfl⟩
  ·have d2:decide (a > b)=false:=decide_eq_false h2
   rw [if_neg h2];go_enter func37,ntmps37;go_wp2_with (go_at_call 88;refine (Bk _ _).mono ?_;rintro e w' ⟨rfl,rfl⟩)
   go_ret;exact ⟨rfl,rfl⟩
theorem WJ (a b:Int) (g c:Nat) (w:World) (h0:w.cell? g=a) (h1:w.cell? (Qc g 1)=b):
  Calls prog 36 #[Qs g 2 c] w λe w'=>e=.returned (.int .i64 (if a≠0 then a else b))/\w=w':=by
 obtain ⟨r,hr⟩:∃r:Int,r=if a≠0 then a else b:=⟨_,rfl⟩
 rw [<-hr];have HR:=dL hr;clear hr;go_enter func36,ntmps36;go_wp2_with fail;go_loopw [8] (λi wr=>∃k:Nat,k<=2/\i=.int .i64 k/\wr=w/\(1<=k->a=0)/\(2<=k->b=0)) (λi _=>2 - (intOf i).toNat)
 case atStart=>exact ⟨0,by omega,rfl,rfl,λh=>by omega,λh=>by omega⟩
 case round=>
  obtain ⟨k,hk,rfl,rfl,ha,hb⟩:=hrel
  match k,hk,ha,hb with
  |0,_,_,_=>
   by_cases c0:a=0
   ·subst c0
    go_wp2_with fail;exact ⟨⟨1,by omega,by go_num,by simp⟩,by simp [intOf]⟩
   ·have d:(a != 0)=true:=by simp [c0]
    have hr:=HR.o;rw [if_pos c0] at hr;subst hr;go_wp2_with fail;go_ret;exact ⟨rfl,rfl⟩
  |1,_,ha,_=>
   obtain rfl:=ha (by omega);have hr:=HR.o;rw [if_neg (by simp)] at hr;by_cases c0:b=0
   ·subst c0
    go_wp2_with fail;exact ⟨⟨2,by omega,by go_num,by simp⟩,by simp [intOf]⟩
   ·have d:(b != 0)=true:=by simp [c0]
    subst hr;go_wp2_with fail;go_ret;exact ⟨rfl,rfl⟩
  |2,_,ha,hb=>
   obtain rfl:=ha (by omega);obtain rfl:=hb (by omega);have hr:r=0:=by rw [HR.o];simp
   subst hr;go_wp2_with fail;go_ret;exact ⟨rfl,rfl⟩
  |k+3,hk,_,_=>omega
def nV (a b:St):Int:=if tM a.1 b.1≠0 then tM a.1 b.1 else tM a.2 b.2
theorem Ds (x:dX) (y:Nd) (h k:Bool) (s:St) (w:World):
  Calls prog 35 #[.agg #[x.st.1,x.st.2,x.seq,x.kind,x.node.1,x.node.2,x.dir,x.par.1,x.par.2,x.nm,x.mf,y.id.1,y.id.2,y.dir,y.par.1,y.par.2,y.nm,y.mf,h,k],.agg #[s.1,s.2]] w (dM w (.int .i64 (nV x.st s))):=by
 obtain ⟨r,hr⟩:∃r:Int,r=nV x.st s:=⟨_,rfl⟩;rw [<-hr];have H25:=dL (λg c W'=>WJ (tM x.st.1 s.1) (tM x.st.2 s.2) g c W');unfold nV at hr;rw [<-hr] at H25;clear hr;obtain ⟨W2,Ye⟩:=dG ((w.alloc (.cells #[x.st.1,x.st.2,x.seq,x.kind,x.node.1,x.node.2,x.dir,x.par.1,x.par.2,x.nm,x.mf,y.id.1,y.id.2,y.dir,y.par.1,y.par.2,y.nm,y.mf,h,k] 84)).alloc (.cells #[s.1,s.2] 30));have c0:W2.cell? w=x.st.1:=by rw [Ye];simp [go_sem]
 have c1:W2.cell? (Qc w 1)=x.st.2:=by rw [Ye];simp [go_sem]
 have c2:W2.cell? ⟨w.heap.size+1,0,none⟩=s.1:=by rw [Ye];simp [go_sem]
 have c3:W2.cell? ⟨w.heap.size+1,1,none⟩=s.2:=by rw [Ye];simp [go_sem]
 have hB:Below w w W2:=by rw [Ye];exact ((aC _ w).alloc (aB _) _).alloc (by simp) _
 have HB:=dL hB;have HW:=dL Ye;clear hB Ye;have k0:=λu:eE W2=>u.cell c0
 have k1:=λu:eE W2=>u.cell c1
 have k2:=λu:eE W2=>u.cell c2
 have k3:=λu:eE W2=>u.cell c3
 go_enter func35,ntmps35;go_wp2_with fail;rw [<-HW.o];clear c0 c1 c2 c3;refine mF 14 (by kernel_rfl) (by kernel_rfl) ?_;simp only [dA,List.take_zero,List.drop_succ_cons,bz];repeat (go_big_quiet_step ((go_at_call 37;exact wI (SR _ _ _))))
 refine wpQuiet_nil ?_;rintro _ ⟨u,rfl⟩;have eC:=dL (HB.o.trans (u.below.mono HB.o.size));clear k0 k1 k2 k3;go_wp2_with (go_at_call 36;refine (H25.o _ _ _ (by simp [go_sem]) (by simp [go_sem])).mono ?_;rintro e w' ⟨rfl,rfl⟩)
 go_ret;exact ⟨rfl,eC.o.alloc eC.o.size _⟩
def rcs (l:List Rec):List Value:=l.flatMap rc
theorem vm (l:List Rec):(rcs l).length=l.length*20:=by
 induction l with
 |nil=>rfl
 |cons x l ih=>simp only [rcs,aj,aP,aY] at ih ⊢;rw [ih,ow];omega
theorem Bl (l:List Rec) (k j:Nat) (hk:k < l.length) (hj:j < 20):(rcs l)[k*20+j]? =(rc l[k])[j]?:=by
 induction l generalizing k with
 |nil=>simp at hk
 |cons x l ih=>
  cases k with
  |zero=>
   simp only [rcs,aj];rw [bY (by rw [ow];omega)];simp
  |succ k=>
   have:=ih k (by simpa using hk);simp only [rcs,aj] at this ⊢;rw [bt (by rw [ow];omega)];rw [show (k+1)*20+j - (rc x).length=k*20+j from by rw [ow];omega,this];simp
def Z1 (w:World) (A:Option Addr) (n c:Nat) (l:List Rec):Prop:=l.length=n/\n<=c/\c<=9223372036854775807/\∀k (hk:k < l.length),∃g,A=some ⟨g,0,none⟩/\fP w g (k*20) l[k]
theorem Z1.below {w w':World} {A:Option Addr} {n c:Nat} {l:List Rec} (h:Z1 w A n c l) (hb:Below w w w'):Z1 w' A n c l:=
 ⟨h.1,h.2.1,h.2.2.1,λk hk=>by obtain ⟨g,e,hr⟩:=h.2.2.2 k hk;exact ⟨g,e,hr.below hb⟩⟩
abbrev Log (w:World) (B:Nat) (v:Value) (l:List Rec):Prop:=dQ w B 20 v l.length (rcs l)
theorem Log.rds {w:World} {B:Nat} {v:Value} {l:List Rec} (h:Log w B v l):∃A c,v=.slice A l.length c/\Z1 w A l.length c l:=by
 rcases h.2 with ⟨rfl,h0⟩| ⟨g,cap,rfl,hb,hlt,hnc,hcm,hs,hf,hx⟩
 ·obtain rfl:=az h0
  exact ⟨none,0,rfl,rfl,aB _,by omega,λk hk=>absurd hk (by simp)⟩
 ·refine ⟨_,cap,rfl,rfl,hnc,by unfold maxLen at hcm;omega,λk hk=> ⟨g,rfl,hlt,λj u hu=>hx _ u ?_⟩⟩
  have hj:j < 20:=by
   rcases aD j 20 with h|h
   ·exact h
   ·rw [bD (by rw [ow];exact h)] at hu;cases hu
  rw [Bl l k j hk hj];exact hu
theorem ox {P:Program} {C:World->Prop} {K:Act->Prop} {o:Oper} {a:Act} (ty:TypeId) (x:Operand) (ho:o.op=.load ty x) (b off:Nat) (hx:a.eval x=.pointer (some (Qc b off))) (cs:List Value) (d:TypeDesc) (hc:∀w,C w->w.rangeAt b off cs)
  (hu:P.underlying ty=some d) (hd:d.isRow=true) (hi:(P.info? ty).map (·.size)=some cs.length) (hk:K (a.put o.dst (.agg cs.toArray))):o.quiet P a C K:=
 ⟨_,λw hw=>by
  unfold Oper.quietAt execOp;simp only [ho,hx,Instr.loadAt,Instr.sureAddr,Sem.run_bind,Sem.run_pure,Result.andThen_ok,run_loadVar_mid w b off ty cs d (hc w hw) hu hd hi];exact ⟨rfl,rfl⟩,hk⟩
def Found (s:St) (l:List Rec) (w:World) (e:Ending) (w':World):Prop:=
 ∃(a:Nat) (t:Bool),a<=l.length/\(∀j (hj:j < l.length),j < a->nV l[j].op.st s < 0)/\(∀j (hj:j < l.length),a<=j->¬ nV l[j].op.st s < 0)/\
  t=decide (∃ha:a < l.length,nV l[a].op.st s=0)/\e=.returned (.tuple #[a,t])/\Below w w w'
theorem GL (s:St) (A:Option Addr) (n c:Nat) (l:List Rec) (w:World) (h:Z1 w A n c l) (hn:n<=1000000) (hmono:∀i j (hi:i < l.length) (hj:j < l.length),i<=j->nV l[j].op.st s < 0->nV l[i].op.st s < 0):
  Calls prog 34 #[Qq A n c,sv s,.func (.func 35) #[] #[]] w (Found s l w):=by
 have dV:=dH w (.cells #[s.1,s.2] 30);have hB:=Blk.new w 30 #[s.1,s.2];have JR:=h.1;have HM:=dL hmono;have HX:=dL h;obtain ⟨w1,hw1⟩:=dG (w.alloc (.cells #[s.1,s.2] 30));rw [<-hw1] at dV hB;have HW:=dL hw1;have HB:=dL dV;have mK:=dL hB;have ue:=hB.lt;clear hw1 dV hB h hmono;unfold sv;go_enter func34,ntmps34;go_wp2_with fail;rw [<-HW.o];go_wp2_with fail;go_loopw [9,10] (λi j wr=>∃lo hi:Nat,lo<=hi/\hi<=n/\i=.int .i64 lo/\j=.int .i64 hi/\Below w1 w1 wr/\(∀j (hj:j < l.length),j < lo->nV l[j].op.st s < 0)/\(∀j (hj:j < l.length),hi<=j->¬ nV l[j].op.st s < 0)) (λi j _=>(intOf j).toNat - (intOf i).toNat)
 case atStart=>exact ⟨0,n,by omega,aB _,rfl,rfl,aC _ _,λj _ h=>by omega,λj hj h=>by omega⟩
 case round=>
  obtain ⟨lo,hi,Va,hhn,rfl,rfl,vQ,hlo,hhi⟩:=hrel;rcases aD lo hi with hlt|hge
  ·have hki:(lo:Int) < (hi:Int):=by omega
   have QT:=dL hlo;have HHi:=dL hhi;have oT:=dL vQ;clear hlo hhi vQ;obtain ⟨md,sZ⟩:=dG ((lo+hi) / 2);have emd:((lo:Int)+(hi:Int)) / 2=(md:Int):=by omega
   have yu:lo<=md:=by omega
   have hm2:md < hi:=by omega
   have hml:md < l.length:=by omega
   obtain ⟨g,rfl,hr⟩:=(HX.o.below (HB.o.trans (oT.o.mono HB.o.size))).2.2.2 md hml;obtain ⟨d,hd⟩:=dG (l[md]);rw [<-hd] at hr;obtain ⟨x,y,had,mk⟩:=d;have kr:∀w',(∃u:eE wr,w'=u.wd)->w'.rangeAt g (md*20) [.int .i64 x.st.1,.int .i64 x.st.2,.int .i64 x.seq,.int .i64 x.kind,.int .i64 x.node.1,.int .i64 x.node.2,.bool x.dir,.int .i64 x.par.1,.int .i64 x.par.2,.string (bs x.nm),.string (bs x.mf),.int .i64 y.id.1,.int .i64 y.id.2,.bool y.dir,.int .i64 y.par.1,.int .i64 y.par.2,.string (bs y.nm),.string (bs y.mf),.bool had,.bool mk]:=by
    rintro _ ⟨u,rfl⟩;exact λj v hv=>u.cell (hr.2 j v hv)
   have KR:=dL kr;have p0:=(mK.o.below oT.o mK.o.lt).cell 0;have p1:=(mK.o.below oT.o mK.o.lt).cell 1;simp only [aO,aT,aZ] at p0 p1;have q0:=λu:eE wr=>u.cell p0
   have q1:=λu:eE wr=>u.cell p1
   clear p0 p1;have Tc:(md:Int) < (n:Int):=by omega
   have HD:=dL hd;have HC:=dL (λu:eE wr=>Ds x y had mk s u.wd);obtain ⟨cm,hcm⟩:=dG (nV x.st s);rw [<-hcm] at HC;have HCm:=dL hcm;clear hcm;have qA:=dL oT.o.size;clear hd hr sZ kr;go_upto_region 5 with (fail);clear emd;refine eo (by kernel_rfl) (by kernel_rfl) ?_;go_big_quiet_step (fail)
   go_big_quiet_step (fail)
   go_big_quiet_step (fail)
   go_big_quiet_step (fail)
   go_big_quiet_want;refine ox 84 _ rfl g (md*20) rfl _ _ KR.o underlying84 rfl (by kernel_rfl) ?_;go_frame;go_big_quiet_on;have hg':l[md].op.st=x.st:=by rw [<-HD.o]
   have HG:=dL hg';clear hg';by_cases hneg:cm < 0
   ·have Xe:decide (cm < 0)=true:=decide_eq_true hneg
    repeat (go_big_quiet_step (exact gX (HC.o _)))
    refine wpQuiet_nil ?_;rintro _ ⟨u,rfl⟩;have HN:=dL hneg;have HU:=dL (oT.o.trans (u.below.mono qA.o));clear hneg Xe q0 q1 HC KR;go_wp2_with fail;exact ⟨⟨md+1,hi,by omega,hhn,by go_num,rfl,HU.o,λj hj hlt=>HM.o j md hj hml (by omega) (by rw [HG.o,<-HCm.o];exact HN.o),HHi.o⟩,by simp [intOf];omega⟩
   ·have Xe:decide (cm < 0)=false:=decide_eq_false hneg
    repeat (go_big_quiet_step (exact gX (HC.o _)))
    refine wpQuiet_nil ?_;rintro _ ⟨u,rfl⟩;have HN:=dL hneg;have HU:=dL (oT.o.trans (u.below.mono qA.o));clear hneg Xe q0 q1 HC KR;go_wp2_with fail;exact ⟨⟨lo,md,by omega,by omega,rfl,by go_num,HU.o,QT.o,λj hj hle hc=>HN.o (by rw [HCm.o,<-HG.o];exact HM.o md j hml hj hle hc)⟩,by simp [intOf];omega⟩
  ·obtain rfl:lo=hi:=by omega
   have hki:¬ (lo:Int) < (lo:Int):=by omega
   have QT:=dL hlo;have HHi:=dL hhi;have oT:=dL vQ;clear hlo hhi vQ;go_upto_region 8 with (fail);clear hki;refine eo (by kernel_rfl) (by kernel_rfl) ?_;rcases aD lo n with aeq|aeH
   ·have hml:lo < l.length:=by omega
    have uf:decide (lo < n)=true:=decide_eq_true (by omega);obtain ⟨g,rfl,hr⟩:=(HX.o.below (HB.o.trans (oT.o.mono HB.o.size))).2.2.2 lo hml;obtain ⟨d,hd⟩:=dG (l[lo]);rw [<-hd] at hr;obtain ⟨x,y,had,mk⟩:=d;have kr:∀w',(∃u:eE wr,w'=u.wd)->w'.rangeAt g (lo*20) [.int .i64 x.st.1,.int .i64 x.st.2,.int .i64 x.seq,.int .i64 x.kind,.int .i64 x.node.1,.int .i64 x.node.2,.bool x.dir,.int .i64 x.par.1,.int .i64 x.par.2,.string (bs x.nm),.string (bs x.mf),.int .i64 y.id.1,.int .i64 y.id.2,.bool y.dir,.int .i64 y.par.1,.int .i64 y.par.2,.string (bs y.nm),.string (bs y.mf),.bool had,.bool mk]:=by
     rintro _ ⟨u,rfl⟩;exact λj v hv=>u.cell (hr.2 j v hv)
    have KR:=dL kr;have p0:=(mK.o.below oT.o mK.o.lt).cell 0;have p1:=(mK.o.below oT.o mK.o.lt).cell 1;simp only [aO,aT,aZ] at p0 p1;have q0:=λu:eE wr=>u.cell p0
    have q1:=λu:eE wr=>u.cell p1
    clear p0 p1;have Tc:(lo:Int) < (n:Int):=by omega
    have HD:=dL hd;have HC:=dL (λu:eE wr=>Ds x y had mk s u.wd);obtain ⟨cm,hcm⟩:=dG (nV x.st s);rw [<-hcm] at HC;have hg':l[lo].op.st=x.st:=by rw [<-HD.o]
    have ya:decide (∃ha:lo < l.length,nV l[lo].op.st s=0)=(cm ==0):=by
     rw [hcm,<-hg'];by_cases c0:nV l[lo].op.st s=0
     ·simp [c0,hml]
     ·simp [c0]
    have HA:=dL ya;have qA:=dL oT.o.size;clear hd hr kr hcm hg' ya;repeat (go_big_quiet_step (fail))
    go_big_quiet_want;refine ox 84 _ rfl g (lo*20) rfl _ _ KR.o underlying84 rfl (by kernel_rfl) ?_;go_frame;go_big_quiet_on;repeat (go_big_quiet_step (exact gX (HC.o _)))
    refine wpQuiet_nil ?_;rintro _ ⟨u,rfl⟩;have HU:=dL (oT.o.trans (u.below.mono qA.o));clear q0 q1 HC KR;go_wp2_with fail;go_ret2;exact ⟨lo,_,by omega,QT.o,(λj hj hle hc=>absurd (HHi.o j hj hle) (by omega)),HA.o.symm,rfl,HB.o.trans (HU.o.mono HB.o.size)⟩
   ·have uf:decide (lo < n)=false:=decide_eq_false (by omega)
    have ya:decide (∃ha:lo < l.length,nV l[lo].op.st s=0)=false:=by
     apply decide_eq_false;rintro ⟨h,_⟩;omega
    have HA:=dL ya;have qA:=dL oT.o.size;clear ya;repeat (go_big_quiet_step (fail))
    refine wpQuiet_nil ?_;rintro _ ⟨u,rfl⟩;have HU:=dL (oT.o.trans (u.below.mono qA.o));go_wp2_with fail;go_ret2;exact ⟨lo,_,by omega,QT.o,(λj hj hle hc=>absurd (HHi.o j hj hle) (by omega)),HA.o.symm,rfl,HB.o.trans (HU.o.mono HB.o.size)⟩
theorem Bo:(prog.info? 84).map (λi=>(i.zero,i.size,i.bytes))=some (some (.agg #[qn,qn,qn,qn,qn,qn,false,qn,qn,yj,yj,qn,qn,false,qn,qn,yj,yj,false,false]),20,184):=by kernel_rfl
theorem Zy (a b:Addr) (la ca lb cb:Nat) (w:World) (hne:a.block≠b.block) (tA tB:TypeId) (kA kB:Nat) (hsa:w.shape? a.block=some (tA,kA)) (hsb:w.shape? b.block=some (tB,kB)) (hkB:kB≠0) (hfa:w.frozen? a=false) (hfe:w.frozen? { block:=a.block,off:=kA }=false):
  (callFunc 89 #[.slice (some a) la ca,.slice (some b) lb cb]).run prog w=.ok (.value (.bool false)) w:=by
 have hz:∀w,(Go.sizeOf 84).run prog w=.ok 20 w:=λw=>by
  obtain ⟨i0,gV,hz0,hz1,hz2⟩:=info_parts Bo;simp [sizeOf,typeInfo,gV,hz1]
 rw [run_callFunc_extern func89 (by kernel_rfl) (by kernel_rfl) (by kernel_rfl) (e:=Extern.SlicesOverlaps.overlaps #[64,64] #[4]) (by kernel_rfl),
  Lib.run_overlaps_apart w 64 4 84 underlying64 20 hz a b la ca lb cb hne tA tB kA kB hsa hsb hkB hfa hfe]
 rfl
def iL (B:Nat) (w:World) (v:Value) (n k:Nat) (cs vs:List Value) (e:Ending) (w':World):Prop:=
 ∃v',e=.returned v'/\dQ w' B 20 v' (n+1) (cs.take (k*20)++(vs++cs.drop (k*20)))/\w.grownBy w' v.ownBlock/\(v'.ownBlock=v.ownBlock\/v'.ownBlock=some w.heap.size)
theorem Bp (B:Nat) (v:Value) (n:Nat) (cs vs:List Value) (vb vc:Nat) (w:World) (hO:dQ w B 20 v n cs) (hm:n<=1000000) (hvl:vs.length=20) (nG:∀u∈vs,u.oneCell'=true)
  (hvs:∀j u,vs[j]? =some u->w.cell? ⟨vb,0+j,none⟩=some u) (hB:B<=w.heap.size):
  Calls prog 39 #[v,n,Qs vb 1 vc] w (iL B w v n n cs vs):=by
 obtain ⟨i0,gV,hz0,hz1,hz2⟩:=info_parts Bo;have hsrc:Src prog 20 64 (.slice (some vb) 1 vc) 1 vs w:=Src.ofSlice w underlying64 ⟨vb,0,none⟩ 1 vc vs (by omega) (λj u hj=>by rw [Addr.add_lit];exact hvs j u hj) nG;have hcl:=hO.len;have e1:cs.take (n*20)++(vs++cs.drop (n*20))=cs++vs:=by rw [af (by omega),cw (by omega),bG]
 unfold iL;rw [e1];have HO:=dL hO;have HS:=dL hsrc;have HI:=dL gV;have gx:=dL hz0;have gJ:=dL hz1;have gT:=dL hz2;have HB:=dL hB;rcases hO.2 with ⟨rfl,rfl⟩| ⟨g,cap,rfl,hb,hlt,hnc,hcm,hs,hf,hx⟩
 ·clear hsrc gV hz0 hz1 hz2 hB hvs nG e1 hcl hO hvl
  go_enter func39,ntmps39;go_wp2_with (at_builtin;refine dW _ rfl (.tmp 23) (.tmp 24) 64 64 rfl 84 i0 (.agg #[qn,qn,qn,qn,qn,qn,false,qn,qn,yj,yj,qn,qn,false,qn,qn,yj,yj,false,false]) 20 underlying64 HI.o gx.o gJ.o rfl (by decide) B _ 0 cs rfl HO.o (.slice (some vb) 1 vc) rfl 1 vs HS.o (by unfold maxLen;omega) (by rw [gT.o];omega) HB.o ?_)
  intro v' w3 hown hgrow fR;have H1:=dL hown;have H2:=dL hgrow;have H3:=dL fR;clear hown hgrow fR;go_wp2_with fail;go_ret;exact ⟨_,rfl,H1.o,H2.o,H3.o⟩
 ·unfold maxLen at hcm
  clear hsrc gV hz0 hz1 hz2 hB hvs nG e1 hcl hO hvl hs hf hx;rcases aD n cap with hc|hc
  ·go_enter func39,ntmps39
   go_wp2_with (at_builtin;refine dW _ rfl (.tmp 23) (.tmp 24) 64 64 rfl 84 i0 (.agg #[qn,qn,qn,qn,qn,qn,false,qn,qn,yj,yj,qn,qn,false,qn,qn,yj,yj,false,false]) 20 underlying64 HI.o gx.o gJ.o rfl (by decide) B _ n cs rfl HO.o (.slice (some vb) 1 vc) rfl 1 vs HS.o (by unfold maxLen;omega) (by rw [gT.o];omega) HB.o ?_)
   intro v' w3 hown hgrow fR;have H1:=dL hown;have H2:=dL hgrow;have H3:=dL fR;clear hown hgrow fR;go_wp2_with fail;go_ret;exact ⟨_,rfl,H1.o,H2.o,H3.o⟩
  ·obtain rfl:cap=n:=by omega
   go_enter func39,ntmps39;go_wp2_with (at_builtin;refine dW _ rfl (.tmp 23) (.tmp 24) 64 64 rfl 84 i0 (.agg #[qn,qn,qn,qn,qn,qn,false,qn,qn,yj,yj,qn,qn,false,qn,qn,yj,yj,false,false]) 20 underlying64 HI.o gx.o gJ.o rfl (by decide) B _ _ cs rfl HO.o (.slice (some vb) 1 vc) rfl 1 vs HS.o (by unfold maxLen;omega) (by rw [gT.o];omega) HB.o ?_)
   intro v' w3 hown hgrow fR;have H1:=dL hown;have H2:=dL hgrow;have H3:=dL fR;clear hown hgrow fR;go_wp2_with fail;go_ret;exact ⟨_,rfl,H1.o,H2.o,H3.o⟩
theorem xK (B g cap n k:Nat) (cs vs:List Value) (vb vc:Nat) (w:World) (hO:dQ w B 20 (.slice (some g) n cap) n cs) (hm:n<=1000000) (hk:k < n) (hroom:n+1<=cap) (hvl:vs.length=20) (h1c:∀u∈cs,u.oneCell'=true) (nG:∀u∈vs,u.oneCell'=true)
  (hvs:∀j u,vs[j]? =some u->w.cell? ⟨vb,0+j,none⟩=some u) (Jj:vb≠g) (tA:TypeId) (kA:Nat) (hsa:w.shape? vb=some (tA,kA)) (hfa:w.frozen? ⟨vb,0,none⟩=false) (hfe:w.frozen? ⟨vb,kA,none⟩=false):
  Calls prog 39 #[Qs g n cap,k,Qs vb 1 vc] w (iL B w (.slice (some g) n cap) n k cs vs):=by
 obtain ⟨i0,gV,hz0,hz1,hz2⟩:=info_parts Bo;have hcl:=hO.len;rcases hO.2 with ⟨h,_⟩| ⟨g',cap',he,hb,hlt,hnc,hcm,hs,hf,hx⟩
 ·cases h
 obtain ⟨rfl,rfl⟩:g=g'/\cap=cap':=by cases he;exact ⟨rfl,rfl⟩
 have abw:cap<=9223372036854775807:=by unfold maxLen at hcm;omega
 have hcs:(n+1)*20<=cap*20:=bA _ hroom;obtain ⟨u0,MW⟩:=Option.isSome_iff_exists.1 (hs 0 (by omega));obtain ⟨tB,kB,hsb,hkB⟩:=mL MW;have hsz:(prog.info? 84).map (·.size)=some 20:=by rw [gV];simp [hz1]
 have Te:∀lb cb,(callFunc 89 #[Qs vb 1 vc,.slice (some ⟨g,(k+1)*20,none⟩) lb cb]).run prog w=.ok (.value (.bool false)) w:=λlb cb=>Zy ⟨vb,0,none⟩ ⟨g,(k+1)*20,none⟩ 1 vc lb cb w Jj tA tB kA kB hsa hsb hkB hfa hfe
 have vw:(cs.drop (k*20)).length=(n - k)*20:=by rw [ah,hcl];omega
 have Ev:∀ty dc sc,(Builtin.copy_ #[64,64] ty #[.slice (some ⟨g,(k+1)*20,none⟩) (n+1 - (k+1)) dc,.slice (some ⟨g,k*20,none⟩) (n+1 - k) sc]).run prog w.drew=.ok (goInt (Nat.min (n+1 - k) (n+1 - (k+1)):Nat)) (w.drew.setCells g ((k+1)*20) (cs.drop (k*20))):=λty dc sc=>
  ep w.drew _ _ ty 84 20 g ((k+1)*20) (n+1 - (k+1)) dc ⟨g,k*20,none⟩ (n+1 - k) sc (cs.drop (k*20)) underlying64 hsz (by rw [vw];simp only [Nat.min_def];split <;> omega)
   (λj v hj=>by rw [Addr.add_lit];exact hx _ v (by rwa [List.getElem?_drop] at hj))
   (λj hj=>hs _ (by omega)) (λj hj=>hf _ (by omega)) (λv hv=>h1c v (cH hv))
 obtain ⟨W1,je⟩:=dG (w.drew.setCells g ((k+1)*20) (cs.drop (k*20)));have Ew:∀j,j < cap*20->(W1.cell? ⟨g,j,none⟩).isSome=true:=λj hj=>by
  rw [je];exact World.isSome_setCells g _ _ _ _ (hs j hj)
 have CS:∀(W:World),(∀x,W.cell? x=W1.cell? x)->(∀x,W.frozen? x=W1.frozen? x)->∀ty dc,(Builtin.copy_ #[64,64] ty #[.slice (some ⟨g,k*20,none⟩) (n+1 - k) dc,Qs vb 1 vc]).run prog W=.ok (goInt (Nat.min 1 (n+1 - k):Nat)) (W.setCells g (k*20) vs):=λW uj FF ty dc=>
  ep W _ _ ty 84 20 g (k*20) (n+1 - k) dc ⟨vb,0,none⟩ 1 vc vs underlying64 hsz (by rw [hvl];simp only [Nat.min_def];split <;> omega)
   (λj v hj=>by
    rw [Addr.add_lit,uj,je,World.cell?_setCells_out g _ _ _ _ (λh _=>absurd h Jj)];exact hvs j v hj)
   (λj hj=>by rw [uj];exact Ew _ (by omega)) (λj hj=>by rw [FF,je,World.frozen?_setCells];exact hf _ (by omega)) nG
 rw [<-je] at Ev;have dy:=su (w:=w.drew) (B:=B) hcl hvl (ag hk) hroom hb hlt hcm hs hf hx;have HF:=dL dy;have hw1:IntKind.i64.wrap ((k:Int)+1)=(k:Int)+1:=by rw [IntKind.wrap_i64];omega
 have dV:(0:Int)<=(k:Int)+1:=by omega
 have hin:k<=n:=by omega
 have htn:((k:Int)+1).toNat=k+1:=by omega
 have dY:¬ (cap=k+1):=by omega
 have dn:(k:Int)<=(n:Int)+1:=by omega
 have hb4:¬ (cap=k):=by omega
 have QF:¬ ((k:Int)=(n:Int)):=by omega
 clear dy hx hs hf Ew hvs h1c nG vw hcl MW hsb hkB gV hz0 hz1 hz2 hO he hcs hsa hfa hfe hsz hvl;clear hcm;unfold iL;go_enter func39,ntmps39;go_wp2_with (simp only [Te])
 go_region_law (refine gL rfl (.tmp 73) (.tmp 76) 64 64 rfl (.slice (some ⟨g,(k+1)*20,none⟩) (n+1 - (k+1)) (cap - (k+1))) (.slice (some ⟨g,k*20,none⟩) (n+1 - k) (cap - k)) (by simp [Act.eval,Act.put]) (by simp [Act.eval,Act.put]) (Ev _ _ _) ?_)
 go_wp2_with (at_builtin;refine ew _ rfl _ _ 64 64 rfl _ _ rfl rfl (CS _ (λ_=>rfl) (λ_=>rfl) _ _) ?_)
 go_ret;exact ⟨_,rfl,HF.o.1,⟨HF.o.2.os,HF.o.2.tape,HF.o.2.output,HF.o.2.size,HF.o.2.block⟩,.inl rfl⟩
theorem zK (B g cap n k:Nat) (cs vs:List Value) (vb vc:Nat) (w:World) (hO:dQ w B 20 (.slice (some g) n cap) n cs) (hm:n<=1000000) (hk:k < n) (hroom:cap < n+1) (hvl:vs.length=20) (h1c:∀u∈cs,u.oneCell'=true) (nG:∀u∈vs,u.oneCell'=true)
  (hvs:∀j u,vs[j]? =some u->w.cell? ⟨vb,0+j,none⟩=some u) (hB:B<=w.heap.size):
  Calls prog 39 #[Qs g n cap,k,Qs vb 1 vc] w (iL B w (.slice (some g) n cap) n k cs vs):=by
 obtain ⟨i0,gV,hz0,hz1,hz2⟩:=info_parts Bo;have hcl:=hO.len;rcases hO.2 with ⟨h,_⟩| ⟨g',cap',he,hb,hlt,hnc,hcm,hs,hf,hx⟩
 ·cases h
 obtain ⟨rfl,rfl⟩:g=g'/\cap=cap':=by cases he;exact ⟨rfl,rfl⟩
 obtain rfl:n=cap:=by omega
 have hsz:(prog.info? 84).map (·.size)=some 20:=by rw [gV];simp [hz1]
 have hvw:vb < w.heap.size:=eB (hvs 0 _ (bh (by omega)));have hkk:(n:Int)+1 - (k:Int)=((n+1 - k:Nat):Int):=by omega
 have hik:k+(n+1 - k)=n+1:=by omega
 have hkl:k*20<=n*20:=bA _ (by omega);have htl:(cs.take (k*20)).length=k*20:=by rw [aR,hcl];omega
 have hold:(Builtin.firstCells i0.size k (.slice (some g) k n)).run prog w.drew=.ok (cs.take (k*20)).toArray w.drew:=by
  rw [hz1];exact run_firstCells_some w.drew 20 k ⟨g,0,none⟩ k n (cs.take (k*20)) htl (λj v hj=>by
   rw [Addr.add_lit];rw [List.getElem?_take] at hj;split at hj
   ·rw [aV];exact hx j v hj
   ·cases hj)
 have JV:∀ty,(Builtin.append_ #[64,3] ty #[Qs g k n,.int .i64 ((n:Int)+1 - (k:Int))]).run prog w=
   .ok (.slice (some w) (n+1) (grownCap w (n+1) n 84)) (w.drew.alloc (.cells ((cs.take (k*20)).toArray++Builtin.zeroCells (.agg #[qn,qn,qn,qn,qn,qn,false,qn,qn,yj,yj,qn,qn,false,qn,qn,yj,yj,false,false]:Value).cells (n+1 - k)++Builtin.zeroCells (.agg #[qn,qn,qn,qn,qn,qn,false,qn,qn,yj,yj,qn,qn,false,qn,qn,yj,yj,false,false]:Value).cells (grownCap w (n+1) n 84 - (n+1))) 84)):=λty=>by
  have h:=Lib.run_append_grow_zeros w 64 3 ty 84 i0 _ .i64 .i64 underlying64 underlying3 gV hz0 (some ⟨g,0,none⟩) k n (cs.take (k*20)) hold (n+1 - k) (by omega) (by omega) (by omega) (by omega) (by rw [hz2];omega) (by rw [hz2,hik];exact growslice_fits (by omega) (by omega));rw [hik] at h;rw [hkk];exact h
 obtain ⟨G,hG⟩:=dG (grownCap w (n+1) n 84);obtain ⟨iZ,sX⟩:∃iZ:Array Value,iZ=(cs.take (k*20)).toArray++Builtin.zeroCells (.agg #[qn,qn,qn,qn,qn,qn,false,qn,qn,yj,yj,qn,qn,false,qn,qn,yj,yj,false,false]:Value).cells (n+1 - k)++Builtin.zeroCells (.agg #[qn,qn,qn,qn,qn,qn,false,qn,qn,yj,yj,qn,qn,false,qn,qn,yj,yj,false,false]:Value).cells (G - (n+1)):=⟨_,rfl⟩;rw [<-hG] at JV;rw [<-sX] at JV;have VG:n+1<=G:=by rw [hG];exact grownCap_ge w _ _ _
 have QG:G<=maxLen:=by rw [hG];exact grownCap_le_maxLen w (n+1) n 84 (by unfold maxLen;omega)
 have abx:G<=9223372036854775807:=by unfold maxLen at QG;omega
 have hzl:(.agg #[qn,qn,qn,qn,qn,qn,false,qn,qn,yj,yj,qn,qn,false,qn,qn,yj,yj,false,false]:Value).cells.size=20:=rfl;have QH:iZ.size=G*20:=by
  rw [sX];simp only [Array.size_append,bW,size_zeroCells,hzl,htl];omega
 have VH:∀j u,j < k*20->cs[j]? =some u->iZ[j]? =some u:=λj u hj hu=>by
  rw [sX,Array.append_assoc,Array.getElem?_append_left (by rw [bW,htl];exact hj)];simpa [bf hj] using hu
 obtain ⟨W1,je⟩:=dG (w.drew.alloc (.cells iZ 84));rw [<-je] at JV;have MU:∀j,W1.cell? ⟨w.heap.size,j,none⟩=iZ[j]?:=λj=>by rw [je];exact World.cell?_alloc_at (w:=w.drew) iZ _ w j rfl
 have hN:∀j,j < G*20->(W1.cell? ⟨w.heap.size,j,none⟩).isSome=true:=λj hj=>by
  rw [MU,cG (by omega)];rfl
 have JW:∀j,W1.frozen? ⟨w.heap.size,j,none⟩=false:=λj=>by rw [je];exact World.frozen?_alloc_at (w:=w.drew) iZ _ w j rfl
 have VJ:∀j v,w.cell? ⟨g,j,none⟩=some v->W1.cell? ⟨g,j,none⟩=some v:=λj v h=>by rw [je,dB (w:=w.drew) _ g j hlt];exact h
 have VK:∀j v,w.cell? ⟨vb,j,none⟩=some v->W1.cell? ⟨vb,j,none⟩=some v:=λj v h=>by rw [je,dB (w:=w.drew) _ vb j hvw];exact h
 have hk1:(k+1)*20=k*20+20:=Nat.succ_mul _ _;have hcs:(n+1)*20<=G*20:=bA _ VG;have QI:∀(W:World),(∀x,W.cell? x=W1.cell? x)->(∀x,W.frozen? x=W1.frozen? x)->∀ty dc,(Builtin.copy_ #[64,64] ty #[.slice (some ⟨w.heap.size,k*20,none⟩) (n+1 - k) dc,Qs vb 1 vc]).run prog W=.ok (goInt (Nat.min 1 (n+1 - k):Nat)) (W.setCells w (k*20) vs):=λW uj FF ty dc=>
  ep W _ _ ty 84 20 w (k*20) (n+1 - k) dc ⟨vb,0,none⟩ 1 vc vs underlying64 hsz (by rw [hvl];simp only [Nat.min_def];split <;> omega)
   (λj v hj=>by rw [Addr.add_lit,uj];exact VK _ v (hvs j v hj))
   (λj hj=>by rw [uj];exact hN _ (by omega)) (λj hj=>by rw [FF];exact JW _) nG
 have hGi:¬ (G=k):=by omega
 have aby:¬ (G=k+1):=by omega
 have sN:¬ (n=k):=by omega
 have QJ:g≠w.heap.size:=by omega
 have vw:(cs.drop (k*20)).length=(n - k)*20:=by rw [ah,hcl];omega
 have Ex:∀(W:World),(∀x,W.cell? x=(W1.setCells w (k*20) vs).cell? x)->(∀x,W.frozen? x=(W1.setCells w (k*20) vs).frozen? x)->∀ty dc sc,(Builtin.copy_ #[64,64] ty #[.slice (some ⟨w.heap.size,(k+1)*20,none⟩) (n+1 - (k+1)) dc,.slice (some ⟨g,k*20,none⟩) (n - k) sc]).run prog W=.ok (goInt (Nat.min (n - k) (n+1 - (k+1)):Nat)) (W.setCells w ((k+1)*20) (cs.drop (k*20))):=λW uj FF ty dc sc=>
  ep W _ _ ty 84 20 w ((k+1)*20) (n+1 - (k+1)) dc ⟨g,k*20,none⟩ (n - k) sc (cs.drop (k*20)) underlying64 hsz (by rw [vw];simp only [Nat.min_def];split <;> omega)
   (λj v hj=>by
    rw [Addr.add_lit,uj,World.cell?_setCells_out _ _ _ _ _ (λh _=>absurd h QJ)];exact VJ _ v (hx _ v (by rwa [List.getElem?_drop] at hj)))
   (λj hj=>by rw [uj];exact World.isSome_setCells _ _ _ _ _ (hN _ (by omega)))
   (λj hj=>by rw [FF,World.frozen?_setCells];exact JW _) (λv hv=>h1c v (cH hv))
 have dy:=sw (W:=W1) (B:=B) (g:=w.heap.size) hcl hvl (ag hk) VG hB (by rw [je];exact (by simp:w.heap.size < (w.drew.alloc (.cells iZ 84)).heap.size)) QG hN (λj _=>JW j) (λj u hj hu=>by rw [MU];exact VH j u hj hu);have hgb:w.grownBy ((W1.setCells w (k*20) vs).setCells w ((k+1)*20) (cs.drop (k*20))) (some g):=by
  have h1:Below w w W1:=by rw [je];exact ((aC w w).drew).alloc (aB _) _
  exact fC (h1.trans ⟨dy.2.os,dy.2.tape,dy.2.output,dy.2.size,λi hi=>dy.2.block i (aN hi h1.size) (λe=>by cases e;omega)⟩) _
 have HF:dK (dQ (((w.alloc (.cells iZ 84)).drew.setCells w (k*20) vs).drew.setCells w ((k+1)*20) (cs.drop (k*20))) B 20 (.slice (some w) (n+1) G) (n+1) (cs.take (k*20)++(vs++cs.drop (k*20)))/\
   w.grownBy (((w.alloc (.cells iZ 84)).drew.setCells w (k*20) vs).drew.setCells w ((k+1)*20) (cs.drop (k*20))) (some g)):=by
  have he:(((w.alloc (.cells iZ 84)).drew.setCells w (k*20) vs).drew.setCells w ((k+1)*20) (cs.drop (k*20))).heap=((W1.setCells w (k*20) vs).setCells w ((k+1)*20) (cs.drop (k*20))).heap:=
   fA _ _ _ _ _ (fA _ _ _ (w.alloc (.cells iZ 84)).drew _ (by rw [je];rfl))
  refine show _/\_ from ⟨dy.1.heap_eq he,⟨?_,?_,?_,by rw [he];exact hgb.size,λi hi hne=>by rw [he];exact hgb.block i hi hne⟩⟩
  ·rw [fu];exact fu _ _ _ _
  ·rw [eS];exact eS _ _ _ _
  ·rw [fV];exact fV _ _ _ _
 subst je;have ZA:∀x,((w.alloc (.cells iZ 84)).drew).cell? x=(w.drew.alloc (.cells iZ 84)).cell? x:=λx=>rfl
 have ZB:∀x,((w.alloc (.cells iZ 84)).drew).frozen? x=(w.drew.alloc (.cells iZ 84)).frozen? x:=λx=>rfl
 have hF1:∀x,(((w.alloc (.cells iZ 84)).drew.setCells w (k*20) vs).drew).cell? x=((w.drew.alloc (.cells iZ 84)).setCells w (k*20) vs).cell? x:=λx=>rfl
 have hF2:∀x,(((w.alloc (.cells iZ 84)).drew.setCells w (k*20) vs).drew).frozen? x=((w.drew.alloc (.cells iZ 84)).setCells w (k*20) vs).frozen? x:=λx=>rfl
 have hw1:IntKind.i64.wrap ((k:Int)+1)=(k:Int)+1:=by rw [IntKind.wrap_i64];omega
 have dV:(0:Int)<=(k:Int)+1:=by omega
 have hin:k<=n:=by omega
 have htn:((k:Int)+1).toNat=k+1:=by omega
 have dn:(k:Int)<=(n:Int):=by omega
 have QF:¬ ((k:Int)=(n:Int)):=by omega
 clear hkk hik hold sX hG QH VH MU hN JW VJ VK hx hs hf dy hgb vw hcs hk1 htl hkl hvs h1c nG hO he gV hz0 hz1 hz2 hsz hcl hvl QG hcm hzl;unfold iL;go_enter func39,ntmps39;go_wp2_with (first
  |(at_builtin;refine Lib.wpList_append_run _ rfl _ _ _ _ rfl _ _ rfl rfl _ _ (JV _) ?_)
  |(at_builtin;refine ew _ rfl _ _ 64 64 rfl _ _ rfl rfl (QI _ ZA ZB _ _) ?_)
  |(at_builtin;refine ew _ rfl _ _ 64 64 rfl _ _ rfl rfl (Ex _ (λ_=>rfl) (λ_=>rfl) _ _ _) ?_))
 go_region_law (refine gL rfl _ _ 64 64 rfl (.slice (some ⟨w.heap.size,(k+1)*20,none⟩) (n+1 - (k+1)) (G - (k+1))) (.slice (some ⟨g,k*20,none⟩) (n - k) (n - k)) (by simp [Act.eval,Act.put]) (by simp [Act.eval,Act.put]) (Ex _ hF1 hF2 3 (G - (k+1)) (n - k)) ?_)
 go_wp2;go_ret;exact ⟨_,rfl,HF.o.1,⟨HF.o.2.os,HF.o.2.tape,HF.o.2.output,HF.o.2.size,HF.o.2.block⟩,.inr rfl⟩
theorem Bq (B:Nat) (v:Value) (n k:Nat) (cs vs:List Value) (vb vc:Nat) (w:World) (hO:dQ w B 20 v n cs) (hm:n<=1000000) (hk:k<=n) (hvl:vs.length=20) (h1c:∀u∈cs,u.oneCell'=true) (nG:∀u∈vs,u.oneCell'=true)
  (hV:Blk w vb 84 vs.toArray) (Jj:v.ownBlock≠some vb) (hB:B<=w.heap.size):
  Calls prog 39 #[v,k,Qs vb 1 vc] w (iL B w v n k cs vs):=by
 have hvs:∀j u,vs[j]? =some u->w.cell? ⟨vb,0+j,none⟩=some u:=λj u hu=>by rw [aV,hV.cell];simpa using hu
 rcases aD k n with hlt|hge
 ·have MV:=hO
  rcases hO.2 with ⟨rfl,rfl⟩| ⟨g,cap,rfl,hb,hlt2,hnc,hcm,hs,hf,hx⟩
  ·omega
  have hne:vb≠g:=λe=>Jj (by rw [e];rfl)
  rcases aD n cap with hc|hc
  ·exact xK B g cap n k cs vs vb vc w MV hm hlt hc hvl h1c nG hvs hne _ _ hV.shape (hV.frozen 0) (hV.frozen _)
  ·exact zK B g cap n k cs vs vb vc w MV hm hlt (by omega) hvl h1c nG hvs hB
 ·obtain rfl:k=n:=by omega
  exact Bp B v k cs vs vb vc w hO hm hvl nG hvs hB
def rightS (s:St):Bool:=!(decide (s.1 < 1) || decide (s.1 > 1099511627776) || decide (s.2 < 0) || decide (s.2≥15))
theorem lH (s:St) (w:World):Calls prog 31 #[.agg #[s.1,s.2]] w (dM w (.int .i64 (if rightS s then 0 else 20))):=by
 have HB:=dL ((aC w w).alloc (aB _) (.cells #[s.1,s.2] 30));unfold rightS;cases h1:decide (s.1 < 1) <;> cases h2:decide (s.1 > 1099511627776) <;> cases h3:decide (s.2 < 0) <;> cases h4:decide (s.2≥15);all_goals (
  go_enter func31,ntmps31;go_wp2_with fail;go_ret;exact ⟨rfl,HB.o⟩)
theorem O3 (w:World):Calls prog 5 #[] w λe w'=>e=.returned (.pointer (some ⟨w.heap.size+1,0,none⟩))/\kY w' (w.heap.size+1) w (.slice none 0 0) 0 []/\Below w w w'/\w'.heap.size=w.heap.size+2:=by
 have hmk:=WD w;have hm:=gd.new w;have hs:kY ((w.alloc (.map #[] 0)).alloc (.cells #[(),.map (some w.heap.size),qn] 66)) (w.heap.size+1) w (.slice none 0 0) 0 []:=
  ⟨Blk.new2 w _ 66 _,hm.below ((aC _ _).alloc (aB _) _)⟩
 have HS:=dL hs;have HB:=dL (((aC w w).alloc (aB _) (.map #[] 0)).alloc (by simp) (.cells #[(),.map (some w.heap.size),qn] 66));clear hm hs;go_enter func5,ntmps5;go_wp2_with fail;go_ret;exact ⟨rfl,HS.o,HB.o,by simp⟩
end
section
set_option linter.unusedSimpArgs false
set_option linter.unusedVariables false
open Go.RowKit
theorem Br (s:St):∀es:List Nd,es.findIdx? (eZ s)=(ids es).findIdx? (λi=>decide (i=s))
 | []=>rfl
 |e :: r=>by
  have ih:=Br s r;unfold ids at ih ⊢;rw [bB,List.findIdx?_cons,List.findIdx?_cons,ih];rfl
variable {s a b:St} {es:List Nd}
theorem Iv (h:er s es=true):∃i,∃hi:i < es.length,es.findIdx? (eZ s)=some i/\eX s es=es[i]/\es[i].id=s:=by
 have hf:=jM (s:=s) (xs:=es);cases hp:es.findIdx? (eZ s) with
 |none=>
  unfold er at h;rw [hf.2 hp] at h;cases h
 |some i=>
  obtain ⟨hi,h1,h2⟩:=hf.1 i hp;exact ⟨i,hi,rfl,by unfold eX;rw [h1];rfl,h2⟩
theorem pU (h:er s es=false):es.findIdx? (eZ s)=none/\s∉ids es:=by
 have hf:=jM (s:=s) (xs:=es);cases hp:es.findIdx? (eZ s) with
 |none=>
  refine ⟨rfl,λhm=>?_⟩;obtain ⟨x,hx,he⟩:=aU.1 hm;have:=List.find?_eq_none.1 (hf.2 hp) x hx;exact this (by simp [eZ,he])
 |some i=>
  obtain ⟨hi,h1,h2⟩:=hf.1 i hp;unfold er at h;rw [h1] at h;cases h
variable {n:Nd}
theorem Bt (h:er n.id es=true):∃i,∃hi:i < es.length,es[i].id=n.id/\jF es n=es.set i n/\eX n.id es=es[i]/\es.findIdx? (eZ n.id)=some i:=by
 obtain ⟨i,hi,h1,h2,h3⟩:=Iv h;exact ⟨i,hi,h3,by unfold jF;rw [h1],h2,h1⟩
theorem pV (h:er n.id es=false):jF es n=es++[n]:=by
 unfold jF;rw [(pU h).1]
theorem Dt (h:er n.id es=true):ids (jF es n)=ids es:=by
 obtain ⟨i,hi,h1,h2,_⟩:=Bt h;rw [h2,vj hi h1]
theorem zL (h:er n.id es=false):ids (jF es n)=ids es++[n.id]:=by
 rw [pV h];simp [ids]
theorem SU (es:List Nd) (n:Nd):(jF es n).length<=es.length+1:=by
 cases h:er n.id es with
 |true=>obtain ⟨i,hi,h1,h2,_⟩:=Bt h;rw [h2];simp
 |false=>rw [pV h];simp
theorem Ko (h:(ids es).Nodup):(ids (jF es n)).Nodup:=by
 cases hh:er n.id es with
 |true=>rw [Dt hh];exact h
 |false=>
  rw [zL hh,cE];refine ⟨h,by simp,?_⟩;intro a ha b hb;rw [aW.1 hb];exact λe=>(pU hh).2 (e ▸ ha)
theorem SV (x:dX):Iu (uQ es x) (AY es x)=es:=by
 unfold Iu uQ;cases hm:(AY es x).made with
 |false=>simp
 |true=>
  have hid:=Dr (es:=es) (x:=x) hm;generalize hn:(fZ es x (eX x.node es) (er x.node es)).1=n at hid;simp only [if_true];have zc:(AY es x).had=er x.node es:=rfl;have aeE:(AY es x).was=eX x.node es:=rfl;have hop:(AY es x).op.node=x.node:=rfl;rw [zc,aeE,hop,<-hid];cases hh:er n.id es with
  |true=>
   simp only [if_true];obtain ⟨i,hi,h1,h2,h3,h4⟩:=Bt hh;have h5:(es.set i n).findIdx? (eZ es[i].id)=some i:=by rw [Br,vj hi h1,<-Br,h1,h4]
   rw [h2,h3];unfold jF;rw [h5];simp
  |false=>
   simp only [bp,if_false];rw [pV hh];unfold DR;rw [List.findIdx?_append,(pU hh).1];simp [eZ,List.eraseIdx_append_of_length_le]
def i6 (L:List dX):List Nd:=L.foldl uQ []
theorem GM (L:List dX) (x:dX):i6 (L++[x])=uQ (i6 L) x:=by simp [i6]
theorem AZ (x:dX) (h:(ids es).Nodup):(ids (uQ es x)).Nodup:=by
 unfold uQ;split
 ·exact Ko h
 ·exact h
theorem SX (es:List Nd) (x:dX):(uQ es x).length<=es.length+1:=by
 unfold uQ;split
 ·exact SU _ _
 ·omega
theorem Du (L:List dX):∀es:List Nd,(ids es).Nodup->(ids (L.foldl uQ es)).Nodup:=by
 induction L with
 |nil=>exact λes h=>h
 |cons x L ih=>exact λes h=>ih _ (AZ x h)
theorem Kq (L:List dX):∀es:List Nd,(L.foldl uQ es).length<=es.length+L.length:=by
 induction L with
 |nil=>intro es;simp
 |cons x L ih=>intro es;have h1:=ih (uQ es x);have h2:=SX es x;simp only [List.foldl_cons,aY];omega
theorem Dv (L:List dX):(ids (i6 L)).Nodup:=Du L [] List.Pairwise.nil
theorem pW (L:List dX):(i6 L).length<=L.length:=by have:=Kq L [];simpa [i6] using this
variable {L:List dX} {j k:Nat}
theorem xL (hk:k < L.length):i6 (L.take (k+1))=uQ (i6 (L.take k)) L[k]:=by
 rw [ay hk,GM]
def fQ (es:List Nd):List dX->List Rec
 | []=>[]
 |x :: l=>AY es x :: fQ (uQ es x) l
def fT (L:List dX):List Rec:=fQ [] L
theorem Bu (L:List dX):∀es,(fQ es L).length=L.length:=by
 induction L with
 |nil=>intro es;rfl
 |cons x L ih=>intro es;simp [fQ,ih]
theorem Dw (L:List dX):∀(es:List Nd) (k:Nat) (hk:k < L.length) (hk':k < (fQ es L).length),(fQ es L)[k]=AY ((L.take k).foldl uQ es) L[k]:=by
 induction L with
 |nil=>intro es k hk;simp at hk
 |cons x L ih=>
  intro es k hk hk';cases k with
  |zero=>rfl
  |succ k=>exact ih (uQ es x) k (by simpa using hk) (by simpa [fQ] using hk')
theorem eP (L:List dX):(fT L).length=L.length:=Bu L []
theorem tO (L:List dX) (k:Nat) (hk:k < L.length):(fT L)[k]'(by rw [eP];exact hk)=AY (i6 (L.take k)) L[k]:=Dw L [] k hk _
theorem zM (L:List dX):∀(es:List Nd) (k:Nat),(fQ es L).take k=fQ es (L.take k):=by
 induction L with
 |nil=>intro es k;simp [fQ]
 |cons x L ih=>
  intro es k;cases k with
  |zero=>rfl
  |succ k=>simp [fQ,ih]
theorem Dx (L:List dX) (k:Nat):(fT L).take k=fT (L.take k):=zM L [] k
theorem Dy {a b:Int}:tM a b < 0↔a < b:=by unfold tM;split <;> (try split) <;> constructor <;> intro h <;> omega
theorem mq {a b:Int}:tM a b=0↔a=b:=by unfold tM;split <;> (try split) <;> constructor <;> intro h <;> omega
theorem mu:di a b=true↔(a.1 < b.1\/(a.1=b.1/\a.2 < b.2)):=by unfold di;simp
theorem xM:nV a b < 0↔di a b=true:=by
 rw [mu];unfold nV;by_cases h:tM a.1 b.1=0
 ·rw [if_neg (by simpa using h),Dy]
  have:=mq.1 h;omega
 ·rw [if_pos h,Dy]
  have:a.1≠b.1:=λe=>h (mq.2 e)
  omega
theorem Aa:nV a b=0↔a=b:=by
 unfold nV;by_cases h:tM a.1 b.1=0
 ·rw [if_neg (by simpa using h),mq]
  have:=mq.1 h;exact ⟨λh2=>Prod.ext this h2,λe=>by rw [e]⟩
 ·rw [if_pos h]
  exact ⟨λe=>absurd e h,λe=>by rw [e];exact mq.2 rfl⟩
theorem mH (a:St):di a a=false:=by unfold di;simp
theorem jk{c:St} (h:di a b=true) (k:di b c=true):di a c=true:=by rw [mu] at*;omega
theorem xN (h:di a b=true):di b a=false:=by
 cases hb:di b a with
 |false=>rfl
 |true=>have:=jk h hb;rw [mH] at this;cases this
theorem nW (h:di a b=false) (hne:a≠b):di b a=true:=by
 rw [mu];have h1:¬ (di a b=true):=by rw [h];simp
 rw [mu] at h1;have h2:¬ (a.1=b.1/\a.2=b.2):=λ⟨e1,e2⟩=>hne (Prod.ext e1 e2)
 omega
def gQ (L:List dX):Prop:=L.Pairwise λa b=>di a.st b.st=true
def oy (L:List dX) (s:St):Nat:=(L.takeWhile λx=>di x.st s).length
def xO (L:List dX) (s:St):Bool:=decide (∃ha:oy L s < L.length,L[oy L s].st=s)
def qJ (L:List dX) (x:dX):List dX:=L.take (oy L x.st)++x :: L.drop (oy L x.st)
def iT (L:List dX) (x:dX):Int:=if rightS x.st then (if xO L x.st then 24 else if L.length≥400 then 40 else 0) else 20
def lI (L:List dX) (x:dX):List dX:=if iT L x=0 then qJ L x else L
theorem qR {α:Type} (p:α->Bool):∀(l:List α) (a:Nat),a<=l.length->(∀j (hj:j < l.length),j < a->p l[j]=true)->(∀j (hj:j < l.length),a<=j->p l[j]=false)->(l.takeWhile p).length=a
 | [],a,h,_,_=>by simp at h;simp [h]
 |x :: l,0,_,_,h2=>by
  have:=h2 0 (by simp) (aB _);simp at this;simp [this]
 |x :: l,a+1,h,h1,h2=>by
  have h0:=h1 0 (by simp) (by omega);simp at h0;rw [List.takeWhile_cons,h0];simp;exact qR p l a (by simpa using h) (λj hj hlt=>by have:=h1 (j+1) (by simpa using hj) (by omega);simpa using this) (λj hj hle=>by have:=h2 (j+1) (by simpa using hj) (by omega);simpa using this)
theorem kU {α:Type} (p:α->Bool):∀(l:List α),(l.takeWhile p).length<=l.length/\(∀j (hj:j < l.length),j < (l.takeWhile p).length->p l[j]=true)/\(∀h:(l.takeWhile p).length < l.length,p l[(l.takeWhile p).length]=false)
 | []=> ⟨by simp,λj hj=>by simp at hj,λh=>by simp at h⟩
 |x :: l=>by
  obtain ⟨h1,h2,h3⟩:=kU p l;cases hx:p x with
  |false=>simp [List.takeWhile_cons,hx]
  |true=>
   simp only [List.takeWhile_cons,hx,if_true,aY];refine ⟨by omega,λj hj hlt=>?_,λh=>h3 (by omega)⟩;cases j with
   |zero=>exact hx
   |succ j=>exact h2 j (by simpa using hj) (by omega)
theorem Bv (L:List dX) (s:St):oy L s<=L.length:=(kU _ L).1
theorem O4 (hj:j < L.length) (h:j < oy L s):di L[j].st s=true:=(kU (λx:dX=>di x.st s) L).2.1 j hj h
theorem gQ.at_ (h:gQ L) {i:Nat} (hi:i < L.length) (hj:j < L.length) (hij:i < j):di L[i].st L[j].st=true:=dF.1 h i j hi hj hij
theorem O5 (h:gQ L) (hj:j < L.length) (hle:oy L s<=j):di L[j].st s=false:=by
 have h0:=(kU (λx:dX=>di x.st s) L).2.2 (by show oy L s < L.length;omega);have h0':di (L[oy L s]'(by omega)).st s=false:=h0;rcases aD (oy L s) j with hlt|hge
 ·cases hc:di L[j].st s with
  |false=>rfl
  |true=>rw [jk (h.at_ (by omega) hj hlt) hc] at h0';cases h0'
 ·have:oy L s=j:=by omega
  subst this;exact h0'
theorem Dz (h:gQ L):xO L s=true↔∃x∈L,x.st=s:=by
 unfold xO;rw [decide_eq_true_iff];constructor
 ·rintro ⟨ha,he⟩
  exact ⟨_,aa ha,he⟩
 ·rintro ⟨x,hx,he⟩
  obtain ⟨j,hj,rfl⟩:=List.getElem_of_mem hx;have h1:¬ j < oy L s:=λhlt=>by have:=O4 hj hlt;rw [he,mH] at this;cases this
  rcases aD (oy L s) j with hlt|hge
  ·have h2:=h.at_ (i:=oy L s) (by omega) hj hlt
   rw [he] at h2;rw [O5 h (by omega) (aB _)] at h2;cases h2
  ·have:oy L s=j:=by omega
   subst this;exact ⟨hj,he⟩
theorem O6 (L:List dX) (x:dX):(qJ L x).length=L.length+1:=by have:=Bv L x.st;simp [qJ];omega
theorem E2 (h:gQ L) {x:dX} (hn:xO L x.st=false):gQ (qJ L x):=by
 have hno:∀y∈L,y.st≠x.st:=λy hy e=>by
  have:=(Dz h).2 ⟨y,hy,e⟩;rw [hn] at this;cases this
 unfold qJ gQ;have hsplit:L=L.take (oy L x.st)++L.drop (oy L x.st):=(bV _ _).symm;have hp:(L.take (oy L x.st)++L.drop (oy L x.st)).Pairwise λa b=>di a.st b.st=true:=by rw [<-hsplit];exact h
 rw [List.pairwise_append] at hp ⊢;obtain ⟨p1,p2,p3⟩:=hp;have Hy:∀a∈L.take (oy L x.st),di a.st x.st=true:=λa ha=>by
  obtain ⟨j,hj,rfl⟩:=List.getElem_of_mem ha;simp only [aR] at hj;rw [List.getElem_take];exact O4 (by omega) (by omega)
 have abI:∀b∈L.drop (oy L x.st),di x.st b.st=true:=λb hb=>by
  have hbL:=cH hb;obtain ⟨j,hj,rfl⟩:=List.getElem_of_mem hb;simp only [ah] at hj;rw [List.getElem_drop] at hbL ⊢;exact nW (O5 h (by omega) (by omega)) (hno _ hbL)
 refine ⟨p1,cU.2 ⟨abI,p2⟩,λa ha b hb=>?_⟩;rcases aQ.1 hb with rfl|hb
 ·exact Hy a ha
 ·exact p3 a ha b hb
theorem nX {x:dX}:iT L x=0↔rightS x.st=true/\xO L x.st=false/\L.length < 400:=by
 unfold iT;cases rightS x.st <;> cases xO L x.st <;> simp
theorem uR (h:gQ L) (x:dX):gQ (lI L x):=by
 unfold lI;split
 ·next hc=>exact E2 h (nX.1 hc).2.1
 ·exact h
theorem Ab (L:List dX) (x:dX):(qJ L x).take (oy L x.st)=L.take (oy L x.st):=by
 unfold qJ;have:=Bv L x.st;rw [List.take_append_of_le_length (by rw [aR];omega),List.take_take,Nat.min_self]
end
section
open Go.RowKit
attribute [local go_sem] dR dO dS dP
structure fc (w w':World) (p m:Nat) (v:Value):Prop where
 os:w'.os=w.os
 tape:w'.tape=w.tape
 output:w'.output=w.output
 size:w.heap.size<=w'.heap.size
 block:∀i,i < w.heap.size->i≠p->i≠m->some i≠v.ownBlock->w'.heap[i]? =w.heap[i]?
section
variable {w w' w2:World} {p m:Nat} {v v':Value}
theorem fc.refl (w:World) (p m:Nat) (v:Value):fc w w p m v:=⟨rfl,rfl,rfl,aB _,λ_ _ _ _ _=>rfl⟩
theorem fc.trans (h:fc w w' p m v) (k:fc w' w2 p m v') (hv:∀g,v'.ownBlock=some g->v.ownBlock=some g\/w.heap.size<=g):fc w w2 p m v:=
 ⟨k.os.trans h.os,k.tape.trans h.tape,k.output.trans h.output,aI h.size k.size,λi hi h1 h2 h3=>(k.block i (aN hi h.size) h1 h2 (λe=>by
  rcases hv i e.symm with h4|h4
  ·exact h3 h4.symm
  ·omega)).trans (h.block i hi h1 h2 h3)⟩
theorem fc.below (h:fc w w' p m v) (k:Below w' w' w2):fc w w2 p m v:=
 ⟨k.os.trans h.os,k.tape.trans h.tape,k.output.trans h.output,aI h.size k.size,λi hi h1 h2 h3=>(k.block i (aN hi h.size)).trans (h.block i hi h1 h2 h3)⟩
theorem fc.ofBelow (k:Below w w w') (p m:Nat) (v:Value):fc w w' p m v:=(fc.refl w p m v).below k
theorem fc.grown {g:Nat} (h:fc w w' p m v) (k:w'.grownBy w2 (some g)) (hg:g=p\/g=m\/v.ownBlock=some g\/w.heap.size<=g):fc w w2 p m v:=
 ⟨k.os.trans h.os,k.tape.trans h.tape,k.output.trans h.output,aI h.size k.size,λi hi h1 h2 h3=>(k.block i (aN hi h.size) (λe=>by
  have e':i=g:=aX e;subst e';rcases hg with hg|hg|hg|hg
  ·exact h1 hg
  ·exact h2 hg
  ·exact h3 hg.symm
  ·omega)).trans (h.block i hi h1 h2 h3)⟩
theorem fc.grownO (h:fc w w' p m v) (k:w'.grownBy w2 v'.ownBlock) (hv:∀g,v'.ownBlock=some g->v.ownBlock=some g\/w.heap.size<=g):fc w w2 p m v:=
 ⟨k.os.trans h.os,k.tape.trans h.tape,k.output.trans h.output,aI h.size k.size,λi hi h1 h2 h3=>(k.block i (aN hi h.size) (λe=>by
  rcases hv i e.symm with h4|h4
  ·exact h3 h4.symm
  ·omega)).trans (h.block i hi h1 h2 h3)⟩
theorem fc.toBelow (h:fc w w' p m v) {B:Nat} (hB:B<=w.heap.size) (hp:B<=p) (hm:B<=m) (hv:∀g,v.ownBlock=some g->B<=g):Below B w w':=
 ⟨h.os,h.tape,h.output,h.size,λi hi=>h.block i (by omega) (by omega) (by omega) (λe=>by have:=hv i e.symm;omega)⟩
end
variable {v:Value} {k g p m B:Nat}
theorem jB.toV{w w':World} (h:jB w w' g m) (hv:v.ownBlock=some g):fc w w' p m v:=
 ⟨h.os,h.tape,h.output,h.size,λi hi _ h2 h3=>h.block i hi (λe=>h3 (by rw [hv,e])) h2⟩
structure Ac (w:World) (B p m:Nat) (v:Value) (r:Int) (R:List Rec) (es:List Nd):Prop where
 stt:kY w p m v r es
 log:Log w B v R
 nep:v.ownBlock≠some p
 nem:v.ownBlock≠some m
theorem Ac.below {w w':World} {B p m:Nat} {v:Value} {r:Int} {R:List Rec} {es:List Nd} (h:Ac w B p m v r R es) (hb:Below w w w'):Ac w' B p m v r R es:=
 ⟨h.stt.below hb,dQ.below h.log hb,h.nep,h.nem⟩
structure Us (w:World) (B p m:Nat) (v:Value) (r:Int) (L:List dX):Prop where
 s3:Ac w B p m v r (fT L) (i6 L)
 sorted:gQ L
 len:L.length<=400
 p_ge:B<=p
 m_ge:B<=m
theorem Us.below {w w':World} {B p m:Nat} {v:Value} {r:Int} {L:List dX} (h:Us w B p m v r L) (hb:Below w w w'):Us w' B p m v r L:=⟨h.s3.below hb,h.sorted,h.len,h.p_ge,h.m_ge⟩
variable {R:List Rec}
theorem Log.at_{w:World} (h:Log w B v R) (hk:k < R.length):
  ∃g c,v=.slice (some ⟨g,0,none⟩) R.length c/\v.ownBlock=some g/\R.length<=c/\c<=9223372036854775807/\fP w g (k*20) R[k]/\∀j,j < 20->w.frozen? ⟨g,k*20+j,none⟩=false:=by
 rcases h.2 with ⟨rfl,h0⟩| ⟨g,cap,rfl,hb,hlt,hnc,hcm,hs,hf,hx⟩
 ·omega
 ·refine ⟨g,cap,rfl,rfl,hnc,by unfold maxLen at hcm;omega,⟨hlt,λj u hu=>hx _ u ?_⟩,λj hj=>hf _ (by omega)⟩
  have hj:j < 20:=by
   rcases aD j 20 with h|h
   ·exact h
   ·rw [bD (by rw [ow];exact h)] at hu;cases hu
  rw [Bl R k j hk hj];exact hu
theorem Log.set_{w w':World} {c:Nat} {d:Rec} (h:Log w B (.slice (some g) R.length c) R) (hk:k < R.length) (hr:fP w' g (k*20) d)
  (hout:∀j,(j < k*20\/k*20+20<=j)->w'.cell? ⟨g,j,none⟩=w.cell? ⟨g,j,none⟩) (hfr:∀j,w'.frozen? ⟨g,j,none⟩=w.frozen? ⟨g,j,none⟩):
  Log w' B (.slice (some g) R.length c) (R.set k d):=by
 rcases h.2 with ⟨h0,_⟩| ⟨g',cap,e,hb,hlt,hnc,hcm,hs,hf,hx⟩
 ·cases h0
 ·cases e
  refine ⟨by rw [vm],.inr ⟨g,c,by rw [cT],hb,hr.1,by rw [cT];exact hnc,hcm,λj hj=>?_,λj hj=>by rw [hfr];exact hf j hj,λj u hu=>?_⟩⟩
  ·rcases aD j (k*20) with h1|h1
   ·rw [hout j (.inl h1)];exact hs j hj
   ·rcases aD j (k*20+20) with h2|h2
    ·have hl:j - k*20 < (rc d).length:=by rw [ow];omega
     have:=hr.2 (j - k*20) _ (bh hl);rw [show k*20+(j - k*20)=j from by omega] at this;rw [this];rfl
    ·rw [hout j (.inr h2)];exact hs j hj
  ·have hjl:j < (rcs (R.set k d)).length:=by
    rcases aD j (rcs (R.set k d)).length with h|h
    ·exact h
    ·rw [bD h] at hu;cases hu
   rw [vm,cT] at hjl;have hq:j / 20 < R.length:=by omega
   have hd:j=j / 20*20+j % 20:=by omega
   rw [hd,Bl (R.set k d) (j / 20) (j % 20) (by rw [cT];exact hq) (by omega)] at hu;by_cases hc:k=j / 20
   ·subst hc
    rw [List.getElem_set_self] at hu;have:=hr.2 _ u hu;rw [<-hd] at this;exact this
   ·rw [List.getElem_set_ne hc] at hu
    rw [hout j (by omega)];refine hx j u ?_;rw [hd,Bl R (j / 20) (j % 20) hq (by omega)];exact hu
theorem Ac.undo{w w':World} {r:Int} {es es':List Nd} (h:Ac w B p m v r R es) (hs:kY w' p m v r es') (hg:w.grownBy w' (some m)):Ac w' B p m v r R es':=
 ⟨hs,dQ.kept h.log hg (by
  cases hv:v.ownBlock with
  |none=>exact .inl rfl
  |some g=>exact .inr (λe=>h.nem (by rw [hv,e]))),h.nep,h.nem⟩
theorem Ac.did{w w':World} {c:Nat} {r:Int} {es es':List Nd} {d:Rec} (h:Ac w B p m (.slice (some g) R.length c) r R es) (hk:k < R.length) (hd:vC w w' g (k*20) p m (.slice (some g) R.length c) r d es'):
  Ac w' B p m (.slice (some g) R.length c) r (R.set k d) es':=
 ⟨hd.stt,Log.set_ h.log hk hd.rec_ (λj hj=>hd.o j (by omega)) hd.frozen,h.nep,h.nem⟩
end
end Go.Proofs.YtgdaahffmcfhpaaGreatDoor
