/- Lemmas on the way: VSd VSu VSc VLg. -/
import Derived.Test.YtgdaahffmcfhpaaGreatDoorT25
import Derived.Test.YtgdaahffmcfhpaaGreatDoorT00
set_option maxRecDepth 100000
set_option maxHeartbeats 8000000
namespace Go.Proofs.YtgdaahffmcfhpaaGreatDoor
open Tryz
section
set_option linter.unusedSimpArgs false
set_option linter.unusedVariables false
open Go.RowKit
attribute [local go_sem] dO dL dQ dM
theorem qw {s:St} {xs:List Nd} (h:ek s xs=true):(eP s xs).id=s:=by
 unfold ek at h;unfold eP;cases hf:xs.find? (en s) with
 |none=>rw [hf] at h;cases h
 |some a=>
  have:=List.find?_some hf;simpa [en] using this
def Cj (es:List Nd) (x:dV):Rec:=⟨x,eP x.node es,ek x.node es,(fQ es x (eP x.node es) (ek x.node es)).2⟩
def tI (es:List Nd) (x:dV):List Nd:=if (Cj es x).made then iY es (fQ es x (eP x.node es) (ek x.node es)).1 else es
theorem Ck {es:List Nd} {x:dV} (h:(fQ es x (eP x.node es) (ek x.node es)).2=true):(fQ es x (eP x.node es) (ek x.node es)).1.id=x.node:=by
 unfold fQ at h ⊢;by_cases h1:x.kind=1
 ·rw [if_pos h1]
 rw [if_neg h1] at h ⊢;by_cases h2:x.kind=2
 ·rw [if_pos h2] at h ⊢
  simp only [bL] at h;exact qw h.1.1
 rw [if_neg h2] at h ⊢;by_cases h3:x.kind=3
 ·rw [if_pos h3] at h ⊢
  simp only [bL] at h;exact qw h.1
 rw [if_neg h3] at h ⊢;by_cases h4:x.kind=4
 ·rw [if_pos h4] at h ⊢
  exact qw h
 rw [if_neg h4] at h;cases h
structure ko (w w':World) (g o:Nat) (news:List Value):Prop where
 at_:∀j u,news[j]? =some u->w'.cell? ⟨g,o+j,none⟩=some u
 o:∀j,(j < o\/o+news.length<=j)->w'.cell? ⟨g,j,none⟩=w.cell? ⟨g,j,none⟩
 frozen:∀j,w'.frozen? ⟨g,j,none⟩=w.frozen? ⟨g,j,none⟩
 grown:w.grownBy w' (some g)
theorem ko.cells (w:World) (g o:Nat) (news:List Value) (hs:∀j,j < news.length->(w.cell? ⟨g,o+j,none⟩).isSome=true):ko w (w.setCells g o news) g o news:=
 ⟨fun j u hu=>by
  obtain ⟨hj,rfl⟩:=cV.1 hu;exact World.cell?_setCells_in g news o w hs j hj,
  fun j hj=>World.cell?_setCells_out _ _ _ _ _ (fun _ _=>hj),
  fun j=>World.frozen?_setCells _ _ _ _ _,
  ⟨gx _ _ _ _,ec _ _ _ _,gO _ _ _ _,by rw [eF];exact aB _,fun i hi hne=>World.heap_setCells_other w g _ _ hi (fun e=>hne (by rw [e]))⟩⟩
theorem ko.drew {w w':World} {g o:Nat} {news:List Value} (h:ko w w' g o news):ko w w'.drew g o news:=⟨h.at_,h.o,h.frozen,jv h.grown⟩
theorem fG.turn {w w':World} {g o:Nat} {d:Rec} (h:fG w g o d) {y:Nd} {hd:Bool} (hw:ko w w' g (o+11) (nc y++[.bool hd])):fG w' g o ⟨d.op,y,hd,d.made⟩:=
 ⟨aN h.1 hw.grown.size,fun j u hu=>by
  match j,hu with
  |0,hu=>exact (hw.o _ (.inl (by omega))).trans (h.2 0 u hu)
  |1,hu=>exact (hw.o _ (.inl (by omega))).trans (h.2 1 u hu)
  |2,hu=>exact (hw.o _ (.inl (by omega))).trans (h.2 2 u hu)
  |3,hu=>exact (hw.o _ (.inl (by omega))).trans (h.2 3 u hu)
  |4,hu=>exact (hw.o _ (.inl (by omega))).trans (h.2 4 u hu)
  |5,hu=>exact (hw.o _ (.inl (by omega))).trans (h.2 5 u hu)
  |6,hu=>exact (hw.o _ (.inl (by omega))).trans (h.2 6 u hu)
  |7,hu=>exact (hw.o _ (.inl (by omega))).trans (h.2 7 u hu)
  |8,hu=>exact (hw.o _ (.inl (by omega))).trans (h.2 8 u hu)
  |9,hu=>exact (hw.o _ (.inl (by omega))).trans (h.2 9 u hu)
  |10,hu=>exact (hw.o _ (.inl (by omega))).trans (h.2 10 u hu)
  |11,hu=>exact (bh o 11 0) ▸ hw.at_ 0 u hu
  |12,hu=>exact (bh o 11 1) ▸ hw.at_ 1 u hu
  |13,hu=>exact (bh o 11 2) ▸ hw.at_ 2 u hu
  |14,hu=>exact (bh o 11 3) ▸ hw.at_ 3 u hu
  |15,hu=>exact (bh o 11 4) ▸ hw.at_ 4 u hu
  |16,hu=>exact (bh o 11 5) ▸ hw.at_ 5 u hu
  |17,hu=>exact (bh o 11 6) ▸ hw.at_ 6 u hu
  |18,hu=>exact (bh o 11 7) ▸ hw.at_ 7 u hu
  |19,hu=>exact (hw.o _ (.inr (by show o+11+8<=_;omega))).trans (h.2 19 u hu)
  |k+20,hu=>cases hu⟩
theorem fG.mark {w w':World} {g o:Nat} {d:Rec} (h:fG w g o d) {b:Bool} (hw:ko w w' g (o+19) [.bool b]):fG w' g o ⟨d.op,d.was,d.had,b⟩:=
 ⟨aN h.1 hw.grown.size,fun j u hu=>by
  match j,hu with
  |0,hu=>exact (hw.o _ (.inl (by omega))).trans (h.2 0 u hu)
  |1,hu=>exact (hw.o _ (.inl (by omega))).trans (h.2 1 u hu)
  |2,hu=>exact (hw.o _ (.inl (by omega))).trans (h.2 2 u hu)
  |3,hu=>exact (hw.o _ (.inl (by omega))).trans (h.2 3 u hu)
  |4,hu=>exact (hw.o _ (.inl (by omega))).trans (h.2 4 u hu)
  |5,hu=>exact (hw.o _ (.inl (by omega))).trans (h.2 5 u hu)
  |6,hu=>exact (hw.o _ (.inl (by omega))).trans (h.2 6 u hu)
  |7,hu=>exact (hw.o _ (.inl (by omega))).trans (h.2 7 u hu)
  |8,hu=>exact (hw.o _ (.inl (by omega))).trans (h.2 8 u hu)
  |9,hu=>exact (hw.o _ (.inl (by omega))).trans (h.2 9 u hu)
  |10,hu=>exact (hw.o _ (.inl (by omega))).trans (h.2 10 u hu)
  |11,hu=>exact (hw.o _ (.inl (by omega))).trans (h.2 11 u hu)
  |12,hu=>exact (hw.o _ (.inl (by omega))).trans (h.2 12 u hu)
  |13,hu=>exact (hw.o _ (.inl (by omega))).trans (h.2 13 u hu)
  |14,hu=>exact (hw.o _ (.inl (by omega))).trans (h.2 14 u hu)
  |15,hu=>exact (hw.o _ (.inl (by omega))).trans (h.2 15 u hu)
  |16,hu=>exact (hw.o _ (.inl (by omega))).trans (h.2 16 u hu)
  |17,hu=>exact (hw.o _ (.inl (by omega))).trans (h.2 17 u hu)
  |18,hu=>exact (hw.o _ (.inl (by omega))).trans (h.2 18 u hu)
  |19,hu=>exact hw.at_ 0 u hu
  |k+20,hu=>cases hu⟩
structure jr (w w':World) (g m:Nat):Prop where
 os:w'.os=w.os
 tape:w'.tape=w.tape
 output:w'.output=w.output
 size:w.heap.size<=w'.heap.size
 block:∀i,i < w.heap.size->i≠g->i≠m->w'.heap[i]? =w.heap[i]?
theorem jr.refl (w:World) (g m:Nat):jr w w g m:=⟨rfl,rfl,rfl,aB _,fun _ _ _ _=>rfl⟩
theorem jr.grown1 {w w1 w2:World} {g m:Nat} (h:jr w w1 g m) (k:w1.grownBy w2 (some g)):jr w w2 g m:=
 ⟨k.os.trans h.os,k.tape.trans h.tape,k.output.trans h.output,aK h.size k.size,fun i hi h1 h2=>(k.block i (aN hi h.size) (fun e=>h1 (aa e))).trans (h.block i hi h1 h2)⟩
theorem jr.grown2 {w w1 w2:World} {g m:Nat} (h:jr w w1 g m) (k:w1.grownBy w2 (some m)):jr w w2 g m:=
 ⟨k.os.trans h.os,k.tape.trans h.tape,k.output.trans h.output,aK h.size k.size,fun i hi h1 h2=>(k.block i (aN hi h.size) (fun e=>h2 (aa e))).trans (h.block i hi h1 h2)⟩
theorem jr.below {w w1 w2:World} {g m:Nat} (h:jr w w1 g m) (k:Below w1.heap.size w1 w2):jr w w2 g m:=h.grown1 (eo k _)
theorem kH.grown {w w':World} {p m g:Nat} {v:Value} {r:Int} {es:List Nd} (h:kH w p m v r es) (k:w.grownBy w' (some g)) (hp:p≠g) (hm:m≠g):kH w' p m v r es:=⟨h.blk.grown k (fun e=>hp (aa e)),h.map.grown k (fun e=>hm (aa e))⟩
theorem oH (d:Rec):(rc d).length=20:=rfl
theorem Gh (y:Nd) (b:Bool):(nc y++[Value.bool b]).length=8:=rfl
theorem fG.some11 {w:World} {g o:Nat} {d:Rec} (h:fG w g o d) {y:Nd} {b:Bool} {j:Nat} (hj:j < (nc y++[Value.bool b]).length):(w.cell? ⟨g,o+11+j,none⟩).isSome=true:=by
 rw [Gh] at hj;have hl:11+j < (rc d).length:=by rw [oH];omega
 rw [bh,h.2 (11+j) _ (bf hl)];rfl
def FB (w:World) (g o:Nat) (x:Nd) (b:Bool):World:=(((((((w.setCell ⟨g,o,none⟩ (.int .i64 x.id.1)).setCell ⟨g,o+1,none⟩ (.int .i64 x.id.2)).setCell ⟨g,o+2,none⟩ (.bool x.dir)).setCell ⟨g,o+3,none⟩ (.int .i64 x.par.1)).setCell ⟨g,o+4,none⟩ (.int .i64 x.par.2)).setCell ⟨g,o+5,none⟩ (.string (bs x.nm))).setCell ⟨g,o+6,none⟩ (.string (bs x.mf))).setCell ⟨g,o+7,none⟩ (.bool b)
theorem AS (w:World) (g o:Nat) (x:Nd) (b:Bool):FB w g o x b=w.setCells g o (nc x++[.bool b]):=rfl
theorem fG.wrote8 {w:World} {g o:Nat} {d:Rec} (h:fG w g o d) (y:Nd) (b:Bool):ko w (FB w g (o+11) y b).drew g (o+11) (nc y++[.bool b]):=by
 obtain ⟨l,hl⟩:=dB (nc y++[Value.bool b]);have hs:∀j,j < l.length->(w.cell? ⟨g,o+11+j,none⟩).isSome=true:=fun j hj=>h.some11 (y:=y) (b:=b) (by rw [<-hl];exact hj)
 rw [AS,<-hl];have h1:=ko.cells w g (o+11) l hs;exact h1.drew
structure uA (w w':World) (g o p m:Nat) (v:Value) (r:Int) (d:Rec) (es:List Nd):Prop where
 rec_:fG w' g o d
 o:∀j,(j < o+11\/o+20<=j)->w'.cell? ⟨g,j,none⟩=w.cell? ⟨g,j,none⟩
 frozen:∀j,w'.frozen? ⟨g,j,none⟩=w.frozen? ⟨g,j,none⟩
 stt:kH w' p m v r es
 keep:jr w w' g m
theorem ko.one (w:World) (g o:Nat) (u:Value) (hs:(w.cell? ⟨g,o,none⟩).isSome=true):ko w (w.setCell ⟨g,o,none⟩ u) g o [u]:=by
 have h1:=ko.cells w g o [u] (fun j hj=>by
  obtain rfl:j=0:=by simpa using hj
  exact hs)
 exact h1
theorem uA.start {w w1 w3:World} {g o p m:Nat} {v:Value} {r:Int} {d0 d1:Rec} {es:List Nd} {y:Nd} {had:Bool} (h0:fG w g o d0) (hS:kH w p m v r es) (hp:p≠g) (Kn:m≠g) (hw:ko w w1 g (o+11) (nc y++[.bool had]))
  (h1:fG w1 g o d1) (hb:Below w1.heap.size w1 w3) (mk:Bool):uA w (w3.setCell ⟨g,o+19,none⟩ (.bool mk)) g o p m v r ⟨d1.op,d1.was,d1.had,mk⟩ es:=by
 have h3:=h1.below hb;have hW:=ko.one w3 g (o+19) (.bool mk) (by rw [h3.had_.2];rfl);have k1:jr w w1 g m:=(jr.refl w g m).grown1 hw.grown;refine ⟨h3.mark hW,fun j hj=>?_,fun j=>?_,((hS.grown hw.grown hp Kn).below hb).grown hW.grown hp Kn,(k1.below hb).grown1 hW.grown⟩
 ·rw [hW.o j (by rcases hj with h|h;exact .inl (by omega);exact .inr (by show o+19+1<=j;omega)),hb.cell (p:=⟨g,j,none⟩) h1.1]
  exact hw.o j (by rcases hj with h|h;exact .inl h;exact .inr (by rw [Gh];omega))
 ·rw [hW.frozen,hb.frozen (p:=⟨g,j,none⟩) h1.1,hw.frozen]
theorem uA.map {w w4 w5:World} {g o p m:Nat} {v:Value} {r:Int} {d:Rec} {es es':List Nd} (h:uA w w4 g o p m v r d es) (Kn:m≠g) (hk:w4.grownBy w5 (some m)) (he:gP w5 m es'):uA w w5 g o p m v r d es':=by
 have hb:w5.heap[g]? =w4.heap[g]?:=hk.block g h.rec_.1 (fun e=>Kn (aa e).symm);have hc:∀j,w5.cell? ⟨g,j,none⟩=w4.cell? ⟨g,j,none⟩:=fun j=>aI (a:=⟨g,j,none⟩) hb
 have hz:∀j,w5.frozen? ⟨g,j,none⟩=w4.frozen? ⟨g,j,none⟩:=fun j=>World.frozen?_of_block (a:=⟨g,j,none⟩) hb
 exact ⟨⟨aN h.rec_.1 hk.size,fun j u hu=>by rw [hc];exact h.rec_.2 j u hu⟩,fun j hj=>by rw [hc];exact h.o j hj,fun j=>by rw [hz];exact h.frozen j,
  ⟨h.stt.blk.grown hk (fun e=>by have:=h.stt.map.ne_blk h.stt.blk;exact this (aa e).symm),he⟩,h.keep.grown2 hk⟩
theorem uA.drew {w w4:World} {g o p m:Nat} {v:Value} {r:Int} {d:Rec} {es:List Nd} (h:uA w w4 g o p m v r d es):uA w w4.drew g o p m v r d es:=
 ⟨h.rec_.below (aC _ _).drew,h.o,h.frozen,h.stt.below (aC _ _).drew,h.keep.below (aC _ _).drew⟩
theorem Xd (d:Rec) (g o p m:Nat) (v:Value) (r:Int) (es:List Nd) (w:World) (hd:fG w g o d) (hf:∀j,j < 20->w.frozen? ⟨g,o+j,none⟩=false) (hp:p≠g) (Kn:m≠g) (h:kH w p m v r es) (hm:es.length<=1000000):
  Calls prog 40 #[.pointer (some ⟨p,0,none⟩),.pointer (some ⟨g,o,none⟩)] w fun e w'=>e=.returned (.tuple #[])/\uA w w' g o p m v r (Cj es d.op) (tI es d.op):=by
 obtain ⟨x,y0,adA,acH⟩:=d;obtain ⟨y,hy⟩:=dB (eP x.node es);obtain ⟨had,yI⟩:∃b,b=ek x.node es:=⟨_,rfl⟩;have c1:=h.c1;obtain ⟨o0,o1,o2,o3,o4,o5,o6,o7,o8,o9,rR⟩:=hd.op_;obtain ⟨a0,a1,a2,a3,a4,a5,a6⟩:=hd.was_;obtain ⟨hh,rQ⟩:=hd.had_;have f11:=hf 11 (by omega);have f12:=hf 12 (by omega);have f13:=hf 13 (by omega);have f14:=hf 14 (by omega);have f15:=hf 15 (by omega);have f16:=hf 16 (by omega);have f17:=hf 17 (by omega);have f18:=hf 18 (by omega);have hl:(Instr.lookup 63 (.map (some m)) (sv x.node) true).run prog w.drew=.ok (.tuple #[nv y,.bool had]) w.drew:=by
  rw [hy,yI];exact (h.map.below (w':=w.drew) (aC _ w).drew).look2 x.node
 unfold sv nv at hl;have HS:=dH h;have HD:=dH hd;have HF:=dH hf;have HY:=dH hy;have HH:=dH yI;simp only at o4 o5;clear h hd hf hy yI o0 o1 o2 o3 o6 o7 o8 o9 rR;go_enter func40,ntmps40;go_upto_region 0 with (fail);go_region;obtain ⟨w1,hw1⟩:=dB (((((((((w.setCell ⟨g,o+11,none⟩ (.int .i64 y.id.1)).setCell ⟨g,o+11+1,none⟩ (.int .i64 y.id.2)).setCell ⟨g,o+11+2,none⟩ (.bool y.dir)).setCell ⟨g,o+11+3,none⟩ (.int .i64 y.par.1)).setCell ⟨g,o+11+4,none⟩ (.int .i64 y.par.2)).setCell ⟨g,o+11+5,none⟩ (.string (bs y.nm))).setCell ⟨g,o+11+6,none⟩ (.string (bs y.mf))).setCell ⟨g,o+18,none⟩ (.bool had)).drew);rw [<-hw1];have mQ:ko w w1 g (o+11) (nc y++[.bool had]):=by
  have h1:=HD.o.wrote8 y had;unfold FB at h1;simp only [bh,Nat.reduceAdd] at h1 hw1 ⊢;rw [hw1];exact h1
 clear hw1 hl c1 o4 o5 a0 a1 a2 a3 a4 a5 a6 hh rQ f11 f12 f13 f14 f15 f16 f17 f18;have nG:=HD.o.turn mQ;have uH:=HS.o.grown mQ.grown hp Kn;obtain ⟨n,hn⟩:=dB ((fQ es x y had).1);obtain ⟨mk,hmk⟩:∃b,b=(fQ es x y had).2:=⟨_,rfl⟩;have hN:=MD _ g o p m v r es w1 nG uH hm;simp only at hN;rw [<-hn,<-hmk] at hN;unfold nv at hN;have K6:=dH hN;have BC:=dH nG;have tZ:=dH uH;have rG:=dH mQ;have HN:=dH hn;have HM:=dH hmk;clear hN nG uH mQ hn hmk;go_wp2_with fail;refine K6.o.mono ?_;rintro e w2 ⟨rfl,dS⟩;have di:Below w1.heap.size w1 (w2.alloc (.cells (nc n).toArray 38)):=dS.alloc dS.size _;obtain ⟨hh,rQ⟩:=(BC.o.below di).had_;have f19:(w2.alloc (.cells (nc n).toArray 38)).frozen? ⟨g,o+19,none⟩=false:=by
  rw [di.frozen (p:=⟨g,o+19,none⟩) BC.o.1,rG.o.frozen];exact HF.o 19 (by omega)
 have dw:=dH di;have n7:=(Blk.new w2 38 (nc n).toArray);have HN7:=dH n7;have Yq:g≠w2.heap.size:=fun e=>by have h1:=BC.o.1;have h2:=dS.size;omega
 unfold nc at rQ f19;clear dS di hh n7;have hR:Cj es x= ⟨x,y,had,mk⟩:=by unfold Cj;rw [<-HY.o,<-HH.o,<-HM.o]
 have hE:tI es x=if mk then iY es n else es:=by unfold tI;rw [hR,<-HY.o,<-HH.o,<-HN.o]
 have HR:=dH hR;have HE:=dH hE;have PM:=uA.start HD.o HS.o hp Kn rG.o BC.o dw.o mk;unfold nc at PM;simp only at PM;clear hR hE;cases mk with
 |false=>
  have rJ:=dH PM;clear PM;go_wp2_with fail;go_end0;refine ⟨rfl,?_⟩;rw [HR.o,HE.o];exact rJ.o
 |true=>
  have hid:n.id=x.node:=by
   have h1:=HM.o;rw [HN.o,HY.o,HH.o];exact Ck (by rw [<-HY.o,<-HH.o,<-h1])
  have RZ:=dH hid;clear hid;go_upto_region 4 with (fail);obtain ⟨w4,uP⟩:=dB ((w2.alloc (.cells #[.int .i64 n.id.1,.int .i64 n.id.2,.bool n.dir,.int .i64 n.par.1,.int .i64 n.par.2,.string (bs n.nm),.string (bs n.mf)] 38)).setCell ⟨g,o+19,none⟩ (.bool true));rw [<-uP] at PM;rw [<-uP];have Sj:Blk w4 w2.heap.size 38 (nc n).toArray:=by rw [uP];exact Blk.far HN7.o (fun e=>Yq e.symm) _
  obtain ⟨n0,n1,n2,n3,n4,n5,n6⟩:=eU Sj;obtain ⟨w5,hrun,xE,GP,_⟩:=(PM.drew.stt.map).put n;have c1:=PM.stt.c1;obtain ⟨_,_,_,_,o4,o5,_,_,_,_,_⟩:=PM.rec_.op_;have oo:=dH (PM.drew.map Kn GP xE);rw [RZ.o] at hrun;unfold sv nv at hrun;simp only at o4 o5;clear uP PM Sj xE GP rQ f19;go_region;all_goals
   go_end0;refine ⟨rfl,?_⟩;rw [HR.o,HE.o];exact oo.o
end
section
open Go.RowKit
attribute [local go_sem] dO dL dQ dM
def Gi (es:List Nd) (d:Rec):List Nd:=if d.made then (if d.had then iY es d.was else Ci es d.op.node) else es
theorem QU (d:Rec) (g o p m:Nat) (v:Value) (r:Int) (es:List Nd) (w:World) (hd:fG w g o d) (hid:d.had=true->d.was.id=d.op.node) (h:kH w p m v r es):
  Calls prog 38 #[.pointer (some ⟨p,0,none⟩),.pointer (some ⟨g,o,none⟩)] w fun e w'=>e=.returned (.tuple #[])/\kH w' p m v r (Gi es d)/\w.grownBy w' (some m):=by
 obtain ⟨x,y,had,made⟩:=d;have c1:=h.c1;obtain ⟨o0,o1,o2,o3,o4,o5,o6,o7,o8,o9,rR⟩:=hd.op_;obtain ⟨a0,a1,a2,a3,a4,a5,a6⟩:=hd.was_;obtain ⟨hh,rQ⟩:=hd.had_;have wZ:p≠m:=fun e=>h.map.ne_blk h.blk e.symm
 have HS:=dH h;have HI:=dH hid;unfold Gi;simp only at*;cases made with
 |false=>
  clear hid h hd o0 o1 o2 o3 o6 o7 o8 o9 rR;go_enter func38,ntmps38;go_wp2_with fail;go_end0;exact ⟨rfl,HS.o,dx _ _⟩
 |true=>
  cases had with
  |true=>
   obtain ⟨w5,hrun,xE,GP,_⟩:=(h.map.below (w':=w.drew) (aC _ w).drew).put y;have HP:=dH (show kH w5 p m v r (iY es y) from ⟨(h.below (w':=w.drew) (aC _ w).drew).blk.grown GP (fun e=>wZ (aa e)),xE⟩);have HG:=dH (show w.grownBy w5 (some m) from fT (jv (dx w _)) GP);rw [HI.o rfl] at hrun;unfold sv nv at hrun;clear hid h hd xE GP o0 o1 o2 o3 o6 o7 o8 o9 rR;go_enter func38,ntmps38;go_upto_region 1 with (fail);go_region;all_goals
    go_wp2_with fail;go_end0;exact ⟨rfl,HP.o,HG.o⟩
  |false=>
   have Ds:=fun ty=>(h.map.below (w':=w.drew) (aC _ w).drew).del x.node ty
   obtain ⟨w5,hrun,xE,GP,_⟩:=Ds 0;have HP:=dH (show kH w5 p m v r (Ci es x.node) from ⟨(h.below (w':=w.drew) (aC _ w).drew).blk.grown GP (fun e=>wZ (aa e)),xE⟩);have HG:=dH (show w.grownBy w5 (some m) from fT (jv (dx w _)) GP);unfold sv at hrun;clear hid h hd xE GP o0 o1 o2 o3 o6 o7 o8 o9 rR Ds;go_enter func38,ntmps38;go_upto_region 3 with (fail);go_region;all_goals
    go_wp2_with fail;go_end0;exact ⟨rfl,HP.o,HG.o⟩
def sE (a b:Int):Int:=if a < b then -1 else if b < a then 1 else 0
theorem AT (a:Int) (w:World):Calls prog 88 #[.int .i64 a] w fun e w'=>e=.returned (.bool false)/\w=w':=by
 have h:(a != a)=false:=by simp
 go_enter func88,ntmps88;go_wp2_with fail;go_ret;exact ⟨rfl,rfl⟩
theorem QV (a b:Int) (w:World):Calls prog 37 #[.int .i64 a,.int .i64 b] w fun e w'=>e=.returned (.int .i64 (sE a b))/\w=w':=by
 unfold sE;by_cases h1:a < b
 ·have d1:decide (a < b)=true:=decide_eq_true h1
  rw [if_pos h1];go_enter func37,ntmps37;go_wp2_with (go_at_call 88;refine (AT _ _).mono ?_;rintro e w' ⟨rfl,rfl⟩)
  go_ret;exact ⟨rfl,rfl⟩
 ·have d1:decide (a < b)=false:=decide_eq_false h1
  rw [if_neg h1];by_cases h2:b < a
  ·have d2:decide (a > b)=true:=decide_eq_true h2
   rw [if_pos h2];go_enter func37,ntmps37;go_wp2_with (go_at_call 88;refine (AT _ _).mono ?_;rintro e w' ⟨rfl,rfl⟩)
   go_ret;exact ⟨rfl,rfl⟩
  ·have d2:decide (a > b)=false:=decide_eq_false h2
   rw [if_neg h2];go_enter func37,ntmps37;go_wp2_with (go_at_call 88;refine (AT _ _).mono ?_;rintro e w' ⟨rfl,rfl⟩)
   go_ret;exact ⟨rfl,rfl⟩
theorem Tm (a b:Int) (g c:Nat) (w:World) (h0:w.cell? ⟨g,0,none⟩=some (.int .i64 a)) (h1:w.cell? ⟨g,1,none⟩=some (.int .i64 b)):
  Calls prog 36 #[.slice (some ⟨g,0,none⟩) 2 c] w fun e w'=>e=.returned (.int .i64 (if a≠0 then a else b))/\w=w':=by
 obtain ⟨r,hr⟩:∃r:Int,r=if a≠0 then a else b:=⟨_,rfl⟩
 rw [<-hr];have HR:=dH hr;clear hr;go_enter func36,ntmps36;go_wp2_with fail;go_loopw [8] (fun i wr=>∃k:Nat,k<=2/\i=.int .i64 k/\wr=w/\(1<=k->a=0)/\(2<=k->b=0)) (fun i _=>2 - (intOf i).toNat)
 case atStart=>exact ⟨0,by omega,rfl,rfl,fun h=>by omega,fun h=>by omega⟩
 case round=>
  obtain ⟨k,hk,rfl,rfl,ha,hb⟩:=hrel
  match k,hk,ha,hb with
  |0,_,_,_=>
   by_cases c0:a=0
   ·subst c0
    go_wp2_with fail;exact ⟨⟨1,by omega,by go_num,by simp⟩,by simp [intOf]⟩
   ·have d:(a != 0)=true:=by simp [c0]
    have hr:=HR.o;rw [if_pos c0] at hr;subst hr;go_wp2_with fail;go_ret;exact ⟨rfl,rfl⟩
  |1,_,ha,_=>
   obtain rfl:=ha (by omega);have hr:=HR.o;rw [if_neg (by simp)] at hr;by_cases c0:b=0
   ·subst c0
    go_wp2_with fail;exact ⟨⟨2,by omega,by go_num,by simp⟩,by simp [intOf]⟩
   ·have d:(b != 0)=true:=by simp [c0]
    subst hr;go_wp2_with fail;go_ret;exact ⟨rfl,rfl⟩
  |2,_,ha,hb=>
   obtain rfl:=ha (by omega);obtain rfl:=hb (by omega);have hr:r=0:=by rw [HR.o];simp
   subst hr;go_wp2_with fail;go_ret;exact ⟨rfl,rfl⟩
  |k+3,hk,_,_=>omega
def nA (a b:St):Int:=if sE a.1 b.1≠0 then sE a.1 b.1 else sE a.2 b.2
theorem Cm (x:dV) (y:Nd) (h k:Bool) (s:St) (w:World):
  Calls prog 35 #[.agg #[.int .i64 x.st.1,.int .i64 x.st.2,.int .i64 x.seq,.int .i64 x.kind,.int .i64 x.node.1,.int .i64 x.node.2,.bool x.dir,.int .i64 x.par.1,.int .i64 x.par.2,.string (bs x.nm),.string (bs x.mf),.int .i64 y.id.1,.int .i64 y.id.2,.bool y.dir,.int .i64 y.par.1,.int .i64 y.par.2,.string (bs y.nm),.string (bs y.mf),.bool h,.bool k],.agg #[.int .i64 s.1,.int .i64 s.2]] w (dJ w (.int .i64 (nA x.st s))):=by
 obtain ⟨r,hr⟩:∃r:Int,r=nA x.st s:=⟨_,rfl⟩;rw [<-hr];have H25:=dH (fun g c W'=>Tm (sE x.st.1 s.1) (sE x.st.2 s.2) g c W');unfold nA at hr;rw [<-hr] at H25;clear hr;obtain ⟨W2,WV⟩:=dB ((w.alloc (.cells #[.int .i64 x.st.1,.int .i64 x.st.2,.int .i64 x.seq,.int .i64 x.kind,.int .i64 x.node.1,.int .i64 x.node.2,.bool x.dir,.int .i64 x.par.1,.int .i64 x.par.2,.string (bs x.nm),.string (bs x.mf),.int .i64 y.id.1,.int .i64 y.id.2,.bool y.dir,.int .i64 y.par.1,.int .i64 y.par.2,.string (bs y.nm),.string (bs y.mf),.bool h,.bool k] 84)).alloc (.cells #[.int .i64 s.1,.int .i64 s.2] 30));have c0:W2.cell? ⟨w.heap.size,0,none⟩=some (.int .i64 x.st.1):=by rw [WV];simp [go_sem]
 have c1:W2.cell? ⟨w.heap.size,1,none⟩=some (.int .i64 x.st.2):=by rw [WV];simp [go_sem]
 have c2:W2.cell? ⟨w.heap.size+1,0,none⟩=some (.int .i64 s.1):=by rw [WV];simp [go_sem]
 have c3:W2.cell? ⟨w.heap.size+1,1,none⟩=some (.int .i64 s.2):=by rw [WV];simp [go_sem]
 have hB:Below w.heap.size w W2:=by rw [WV];exact ((aC _ w).alloc (aB _) _).alloc (by simp) _
 have HB:=dH hB;have HW:=dH WV;clear hB WV;have k0:=fun u:dm W2=>u.cell c0
 have k1:=fun u:dm W2=>u.cell c1
 have k2:=fun u:dm W2=>u.cell c2
 have k3:=fun u:dm W2=>u.cell c3
 go_enter func35,ntmps35;go_wp2_with fail;rw [<-HW.o];clear c0 c1 c2 c3;refine lT 14 (by kernel_rfl) (by kernel_rfl) ?_;simp only [cU,List.take_zero,List.drop_succ_cons,bk];repeat (go_big_quiet_step ((go_at_call 37;exact uy (QV _ _ _))))
 refine wpQuiet_nil ?_;rintro _ ⟨u,rfl⟩;have dw:=dH (HB.o.trans (u.below.mono HB.o.size));clear k0 k1 k2 k3;go_wp2_with (go_at_call 36;refine (H25.o _ _ _ (by simp [go_sem]) (by simp [go_sem])).mono ?_;rintro e w' ⟨rfl,rfl⟩)
 go_ret;exact ⟨rfl,dw.o.alloc dw.o.size _⟩
def rcs (l:List Rec):List Value:=l.flatMap rc
theorem uZ (l:List Rec):(rcs l).length=l.length*20:=by
 induction l with
 |nil=>rfl
 |cons x l ih=>simp only [rcs,au,aO,aQ] at ih ⊢;rw [ih,oH];omega
theorem AU (l:List Rec) (k j:Nat) (hk:k < l.length) (hj:j < 20):(rcs l)[k*20+j]? =(rc l[k])[j]?:=by
 induction l generalizing k with
 |nil=>simp at hk
 |cons x l ih=>
  cases k with
  |zero=>
   simp only [rcs,au];rw [bt (by rw [oH];omega)];simp
  |succ k=>
   have:=ih k (by simpa using hk);simp only [rcs,au] at this ⊢;rw [bu (by rw [oH];omega)];rw [show (k+1)*20+j - (rc x).length=k*20+j from by rw [oH];omega,this];simp
def Wo (w:World) (A:Option Addr) (n c:Nat) (l:List Rec):Prop:=l.length=n/\n<=c/\c<=9223372036854775807/\∀k (hk:k < l.length),∃g,A=some ⟨g,0,none⟩/\fG w g (k*20) l[k]
theorem Wo.below {w w':World} {A:Option Addr} {n c:Nat} {l:List Rec} (h:Wo w A n c l) (hb:Below w.heap.size w w'):Wo w' A n c l:=
 ⟨h.1,h.2.1,h.2.2.1,fun k hk=>by obtain ⟨g,e,hr⟩:=h.2.2.2 k hk;exact ⟨g,e,hr.below hb⟩⟩
abbrev Log (w:World) (B:Nat) (v:Value) (l:List Rec):Prop:=dN w B 20 v l.length (rcs l)
theorem Log.rds {w:World} {B:Nat} {v:Value} {l:List Rec} (h:Log w B v l):∃A c,v=.slice A l.length c/\Wo w A l.length c l:=by
 rcases h.2 with ⟨rfl,h0⟩| ⟨g,cap,rfl,hb,hlt,hnc,hcm,hs,hf,hx⟩
 ·obtain rfl:=bH h0
  exact ⟨none,0,rfl,rfl,aB _,by omega,fun k hk=>absurd hk (by simp)⟩
 ·refine ⟨_,cap,rfl,rfl,hnc,by unfold maxLen at hcm;omega,fun k hk=> ⟨g,rfl,hlt,fun j u hu=>hx _ u ?_⟩⟩
  have hj:j < 20:=by
   rcases aG j 20 with h|h
   ·exact h
   ·rw [bI (by rw [oH];exact h)] at hu;cases hu
  rw [AU l k j hk hj];exact hu
theorem oI {P:Program} {C:World->Prop} {K:Act->Prop} {o:Oper} {a:Act} (ty:TypeId) (x:Operand) (ho:o.op=.load ty x) (b off:Nat) (hx:a.eval x=.pointer (some ⟨b,off,none⟩)) (cs:List Value) (d:TypeDesc) (hc:∀w,C w->w.rangeAt b off cs)
  (hu:P.underlying ty=some d) (hd:d.isRow=true) (hi:(P.info? ty).map (·.size)=some cs.length) (hk:K (a.put o.dst (.agg cs.toArray))):o.quiet P a C K:=
 ⟨_,fun w hw=>by
  unfold Oper.quietAt execOp;simp only [ho,hx,Instr.loadAt,Instr.sureAddr,Sem.run_bind,Sem.run_pure,Result.andThen_ok,run_loadVar_mid w b off ty cs d (hc w hw) hu hd hi];exact ⟨rfl,rfl⟩,hk⟩
def Found (s:St) (l:List Rec) (w:World) (e:Ending) (w':World):Prop:=
 ∃(a:Nat) (t:Bool),a<=l.length/\(∀j (hj:j < l.length),j < a->nA l[j].op.st s < 0)/\(∀j (hj:j < l.length),a<=j->¬ nA l[j].op.st s < 0)/\
  t=decide (∃ha:a < l.length,nA l[a].op.st s=0)/\e=.returned (.tuple #[.int .i64 a,.bool t])/\Below w.heap.size w w'
theorem FC (s:St) (A:Option Addr) (n c:Nat) (l:List Rec) (w:World) (h:Wo w A n c l) (hn:n<=1000000) (hmono:∀i j (hi:i < l.length) (hj:j < l.length),i<=j->nA l[j].op.st s < 0->nA l[i].op.st s < 0):
  Calls prog 34 #[.slice A n c,sv s,.func (.func 35) #[] #[]] w (Found s l w):=by
 have dR:=dD w (.cells #[.int .i64 s.1,.int .i64 s.2] 30);have hB:=Blk.new w 30 #[.int .i64 s.1,.int .i64 s.2];have EI:=h.1;have HM:=dH hmono;have HX:=dH h;obtain ⟨w1,hw1⟩:=dB (w.alloc (.cells #[.int .i64 s.1,.int .i64 s.2] 30));rw [<-hw1] at dR hB;have HW:=dH hw1;have HB:=dH dR;have yC:=dH hB;have ud:=hB.lt;clear hw1 dR hB h hmono;unfold sv;go_enter func34,ntmps34;go_wp2_with fail;rw [<-HW.o];go_wp2_with fail;go_loopw [9,10] (fun i j wr=>∃lo hi:Nat,lo<=hi/\hi<=n/\i=.int .i64 lo/\j=.int .i64 hi/\Below w1.heap.size w1 wr/\(∀j (hj:j < l.length),j < lo->nA l[j].op.st s < 0)/\(∀j (hj:j < l.length),hi<=j->¬ nA l[j].op.st s < 0)) (fun i j _=>(intOf j).toNat - (intOf i).toNat)
 case atStart=>exact ⟨0,n,by omega,aB _,rfl,rfl,aC _ _,fun j _ h=>by omega,fun j hj h=>by omega⟩
 case round=>
  obtain ⟨lo,hi,S6,hhn,rfl,rfl,qS,hlo,hhi⟩:=hrel;rcases aG lo hi with hlt|hge
  ·have hki:(lo:Int) < (hi:Int):=by omega
   have RT:=dH hlo;have HHi:=dH hhi;have rH:=dH qS;clear hlo hhi qS;obtain ⟨md,rQ⟩:=dB ((lo+hi) / 2);have emd:((lo:Int)+(hi:Int)) / 2=(md:Int):=by omega
   have xN:lo<=md:=by omega
   have hm2:md < hi:=by omega
   have hml:md < l.length:=by omega
   obtain ⟨g,rfl,hr⟩:=(HX.o.below (HB.o.trans (rH.o.mono HB.o.size))).2.2.2 md hml;obtain ⟨d,hd⟩:=dB (l[md]);rw [<-hd] at hr;obtain ⟨x,y,had,mk⟩:=d;have kr:∀w',(∃u:dm wr,w'=u.wd)->w'.rangeAt g (md*20) [.int .i64 x.st.1,.int .i64 x.st.2,.int .i64 x.seq,.int .i64 x.kind,.int .i64 x.node.1,.int .i64 x.node.2,.bool x.dir,.int .i64 x.par.1,.int .i64 x.par.2,.string (bs x.nm),.string (bs x.mf),.int .i64 y.id.1,.int .i64 y.id.2,.bool y.dir,.int .i64 y.par.1,.int .i64 y.par.2,.string (bs y.nm),.string (bs y.mf),.bool had,.bool mk]:=by
    rintro _ ⟨u,rfl⟩;exact fun j v hv=>u.cell (hr.2 j v hv)
   have KR:=dH kr;have p0:=(yC.o.below rH.o yC.o.lt).cell 0;have p1:=(yC.o.below rH.o yC.o.lt).cell 1;simp only [aP,aS,aW] at p0 p1;have q0:=fun u:dm wr=>u.cell p0
   have q1:=fun u:dm wr=>u.cell p1
   clear p0 p1;have Uo:(md:Int) < (n:Int):=by omega
   have HD:=dH hd;have HC:=dH (fun u:dm wr=>Cm x y had mk s u.wd);obtain ⟨cm,hcm⟩:=dB (nA x.st s);rw [<-hcm] at HC;have HCm:=dH hcm;clear hcm;have tW:=dH rH.o.size;clear hd hr rQ kr;go_upto_region 5 with (fail);clear emd;refine eD (by kernel_rfl) (by kernel_rfl) ?_;go_big_quiet_step (fail)
   go_big_quiet_step (fail)
   go_big_quiet_step (fail)
   go_big_quiet_step (fail)
   go_big_quiet_want;refine oI 84 _ rfl g (md*20) rfl _ _ KR.o underlying84 rfl (by kernel_rfl) ?_;go_frame;go_big_quiet_on;have hg':l[md].op.st=x.st:=by rw [<-HD.o]
   have HG:=dH hg';clear hg';by_cases hneg:cm < 0
   ·have VF:decide (cm < 0)=true:=decide_eq_true hneg
    repeat (go_big_quiet_step (exact fU (HC.o _)))
    refine wpQuiet_nil ?_;rintro _ ⟨u,rfl⟩;have HN:=dH hneg;have HU:=dH (rH.o.trans (u.below.mono tW.o));clear hneg VF q0 q1 HC KR;go_wp2_with fail;exact ⟨⟨md+1,hi,by omega,hhn,by go_num,rfl,HU.o,fun j hj hlt=>HM.o j md hj hml (by omega) (by rw [HG.o,<-HCm.o];exact HN.o),HHi.o⟩,by simp [intOf];omega⟩
   ·have VF:decide (cm < 0)=false:=decide_eq_false hneg
    repeat (go_big_quiet_step (exact fU (HC.o _)))
    refine wpQuiet_nil ?_;rintro _ ⟨u,rfl⟩;have HN:=dH hneg;have HU:=dH (rH.o.trans (u.below.mono tW.o));clear hneg VF q0 q1 HC KR;go_wp2_with fail;exact ⟨⟨lo,md,by omega,by omega,rfl,by go_num,HU.o,RT.o,fun j hj hle hc=>HN.o (by rw [HCm.o,<-HG.o];exact HM.o md j hml hj hle hc)⟩,by simp [intOf];omega⟩
  ·obtain rfl:lo=hi:=by omega
   have hki:¬ (lo:Int) < (lo:Int):=by omega
   have RT:=dH hlo;have HHi:=dH hhi;have rH:=dH qS;clear hlo hhi qS;go_upto_region 8 with (fail);clear hki;refine eD (by kernel_rfl) (by kernel_rfl) ?_;rcases aG lo n with abi|abD
   ·have hml:lo < l.length:=by omega
    have tX:decide (lo < n)=true:=decide_eq_true (by omega);obtain ⟨g,rfl,hr⟩:=(HX.o.below (HB.o.trans (rH.o.mono HB.o.size))).2.2.2 lo hml;obtain ⟨d,hd⟩:=dB (l[lo]);rw [<-hd] at hr;obtain ⟨x,y,had,mk⟩:=d;have kr:∀w',(∃u:dm wr,w'=u.wd)->w'.rangeAt g (lo*20) [.int .i64 x.st.1,.int .i64 x.st.2,.int .i64 x.seq,.int .i64 x.kind,.int .i64 x.node.1,.int .i64 x.node.2,.bool x.dir,.int .i64 x.par.1,.int .i64 x.par.2,.string (bs x.nm),.string (bs x.mf),.int .i64 y.id.1,.int .i64 y.id.2,.bool y.dir,.int .i64 y.par.1,.int .i64 y.par.2,.string (bs y.nm),.string (bs y.mf),.bool had,.bool mk]:=by
     rintro _ ⟨u,rfl⟩;exact fun j v hv=>u.cell (hr.2 j v hv)
    have KR:=dH kr;have p0:=(yC.o.below rH.o yC.o.lt).cell 0;have p1:=(yC.o.below rH.o yC.o.lt).cell 1;simp only [aP,aS,aW] at p0 p1;have q0:=fun u:dm wr=>u.cell p0
    have q1:=fun u:dm wr=>u.cell p1
    clear p0 p1;have Uo:(lo:Int) < (n:Int):=by omega
    have HD:=dH hd;have HC:=dH (fun u:dm wr=>Cm x y had mk s u.wd);obtain ⟨cm,hcm⟩:=dB (nA x.st s);rw [<-hcm] at HC;have hg':l[lo].op.st=x.st:=by rw [<-HD.o]
    have OG:decide (∃ha:lo < l.length,nA l[lo].op.st s=0)=(cm ==0):=by
     rw [hcm,<-hg'];by_cases c0:nA l[lo].op.st s=0
     ·simp [c0,hml]
     ·simp [c0]
    have HA:=dH OG;have tW:=dH rH.o.size;clear hd hr kr hcm hg' OG;repeat (go_big_quiet_step (fail))
    go_big_quiet_want;refine oI 84 _ rfl g (lo*20) rfl _ _ KR.o underlying84 rfl (by kernel_rfl) ?_;go_frame;go_big_quiet_on;repeat (go_big_quiet_step (exact fU (HC.o _)))
    refine wpQuiet_nil ?_;rintro _ ⟨u,rfl⟩;have HU:=dH (rH.o.trans (u.below.mono tW.o));clear q0 q1 HC KR;go_wp2_with fail;go_ret2;exact ⟨lo,_,by omega,RT.o,(fun j hj hle hc=>absurd (HHi.o j hj hle) (by omega)),HA.o.symm,rfl,HB.o.trans (HU.o.mono HB.o.size)⟩
   ·have tX:decide (lo < n)=false:=decide_eq_false (by omega)
    have OG:decide (∃ha:lo < l.length,nA l[lo].op.st s=0)=false:=by
     apply decide_eq_false;rintro ⟨h,_⟩;omega
    have HA:=dH OG;have tW:=dH rH.o.size;clear OG;repeat (go_big_quiet_step (fail))
    refine wpQuiet_nil ?_;rintro _ ⟨u,rfl⟩;have HU:=dH (rH.o.trans (u.below.mono tW.o));go_wp2_with fail;go_ret2;exact ⟨lo,_,by omega,RT.o,(fun j hj hle hc=>absurd (HHi.o j hj hle) (by omega)),HA.o.symm,rfl,HB.o.trans (HU.o.mono HB.o.size)⟩
end
end Go.Proofs.YtgdaahffmcfhpaaGreatDoor
