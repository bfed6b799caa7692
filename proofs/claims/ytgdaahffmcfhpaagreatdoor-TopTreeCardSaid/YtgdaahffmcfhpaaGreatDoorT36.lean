/- Lemmas on the way: Ao Ap Aq. -/
import Derived.Test.YtgdaahffmcfhpaaGreatDoorT35
import Derived.Test.YtgdaahffmcfhpaaGreatDoorT00
set_option maxRecDepth 100000
set_option maxHeartbeats 8000000
namespace Go.Proofs.YtgdaahffmcfhpaaGreatDoor
open Tryz
section
open Go.RowKit
attribute [local go_sem] dO dL dQ dM
theorem Ma {w w2 w3:World} {o l:Nat} {v1 v2 v1' v2':Value} {L L':List dV} {P P':List (List UInt8)} {Fl PY:BS} (hi:U1 w o l v1 v2 L P Fl) (hb:Below w.heap.size w w2)
  (ho1:uC w2 0 v1' L') (Bi:fZ w2 0 v2' P') (uG:∀g,v1'.ownBlock=some g->v1.ownBlock=some g\/w.heap.size<=g) (Ht:∀g,v2'.ownBlock=some g->v2.ownBlock=some g\/w.heap.size<=g)
  (oz:rB v1' L') (hn2:rB v2' P') (hl:xo w3 PY l (L'.length+P'.length)) (st:gT Fl PY w2 w3) (ll:L'.length<=100) (lp:P'.length<=100):
  lH (((w3.setCell ⟨o,3,none⟩ (.bool false)).setCell ⟨o,0,none⟩ v1').setCell ⟨o,1,none⟩ v2') (OS o PY v1' v2') o L' P'/\gT (OS o Fl v1 v2) (OS o PY v1' v2') w (((w3.setCell ⟨o,3,none⟩ (.bool false)).setCell ⟨o,0,none⟩ v1').setCell ⟨o,1,none⟩ v2'):=by
 have jY:=hi.log.bnd;have Ri:=hi.blk.lt;have hs2:=hb.size;have k1:dY (OS o Fl v1 v2) w w3:=eB (eR (S:=OS o Fl v1 v2) hb) st.keeps (fun i hi h=>.inr (.inl h));have k2:dY (fun i=>i=o) w3 (((w3.setCell ⟨o,3,none⟩ (.bool false)).setCell ⟨o,0,none⟩ v1').setCell ⟨o,1,none⟩ v2'):=
  de (S:=fun i=>i=o) (de (S:=fun i=>i=o) (de (S:=fun i=>i=o) (eX (fun i=>i=o) w3) ⟨o,3,none⟩ _ (fun _=>rfl)) ⟨o,0,none⟩ _ (fun _=>rfl)) ⟨o,1,none⟩ _ (fun _=>rfl)
 have n1:∀g,v1'.ownBlock=some g->g≠o/\¬ Fl g:=fun g hg=>by
  rcases uG g hg with h|h
  ·exact hi.h1 g h
  ·exact ⟨by omega,fun hF=>by have:=jY g hF;omega⟩
 have n2:∀g,v2'.ownBlock=some g->g≠o/\¬ Fl g:=fun g hg=>by
  rcases Ht g hg with h|h
  ·exact hi.h2 g h
  ·exact ⟨by omega,fun hF=>by have:=jY g hF;omega⟩
 have m1:∀g,v1'.ownBlock=some g->¬ PY g:=fun g hg hF=>by
  rcases st.gro g hF with h|h
  ·exact (n1 g hg).2 h
  ·have:=(dN.ge ho1 g hg).2;omega
 have m2:∀g,v2'.ownBlock=some g->¬ PY g:=fun g hg hF=>by
  rcases st.gro g hF with h|h
  ·exact (n2 g hg).2 h
  ·have:=(dN.ge Bi g hg).2;omega
 have m3:¬ PY o:=fun hF=>by
  rcases st.gro o hF with h|h
  ·exact hi.ho h
  ·omega
 have hB:=(((((hi.blk.below hb Ri).kp st.keeps hi.ho).set_ 3 (.bool false)).set_ 0 v1').set_ 1 v2');simp only [aH,aD,aF] at hB;refine ⟨⟨l,v1',v2',PY,⟨hB,dN.kp (dN.kp ho1 st.keeps (fun g hg=>(n1 g hg).2)) k2 (fun g hg=>(n1 g hg).1),dN.kp (dN.kp Bi st.keeps (fun g hg=>(n2 g hg).2)) k2 (fun g hg=>(n2 g hg).1),oz,hn2,hl.kp k2 (fun i hF e=>by subst e;exact m3 hF),m3,fun g hg=> ⟨(n1 g hg).1,m1 g hg⟩,fun g hg=> ⟨(n2 g hg).1,m2 g hg⟩,ll,lp⟩,rfl⟩,⟨eB k1 k2 (fun i hi h=>.inl h),?_⟩⟩;rintro i (h|h|h|h)
 ·exact .inl (.inl h)
 ·rcases st.gro i h with h1|h1
  ·exact .inl (.inr (.inl h1))
  ·exact .inr (by omega)
 ·rcases uG i h with h1|h1
  ·exact .inl (.inr (.inr (.inl h1)))
  ·exact .inr h1
 ·rcases Ht i h with h1|h1
  ·exact .inl (.inr (.inr (.inr h1)))
  ·exact .inr h1
theorem As {w:World} {o l:Nat} {L L':List dV} {P P':List (List UInt8)} {Fl:BS} {A1 A2:Option Addr} {n1 c1 n2 c2:Nat} (hi:U1 w o l (.slice A1 n1 c1) (.slice A2 n2 c2) L P Fl) (Ap Al:Option Addr) (np cp nl cl n3:Nat) (P3:List (List UInt8))
  (hg:Calls prog 359 #[.agg #[.slice A1 n1 c1,.slice A2 n2 c2],.slice Ap np cp,.slice Al nl cl] w fun e w1=>∃A3 Kv c3 A4 n4 c4 G c,e=.returned (.tuple #[.agg #[.slice A3 Kv c3,.slice A4 n4 c4],.slice (some ⟨G,0,none⟩) n3 c,.int .i64 0])/\uC w1 0 (.slice A3 Kv c3) L'/\fZ w1 0 (.slice A4 n4 c4) P'/\
   (∀g,(Value.slice A3 Kv c3).ownBlock=some g->(Value.slice A1 n1 c1).ownBlock=some g\/w.heap.size<=g)/\(∀g,(Value.slice A4 n4 c4).ownBlock=some g->(Value.slice A2 n2 c2).ownBlock=some g\/w.heap.size<=g)/\
   rB (.slice A3 Kv c3) L'/\rB (.slice A4 n4 c4) P'/\fZ w1 w.heap.size (.slice (some ⟨G,0,none⟩) n3 c) P3/\Below w.heap.size w w1)
  (Un:P3.length=n3) (hr:∀r∈P3,1<=r.length/\r.length<=1000) (h1:1<=n3) (hk:L.length+P.length=0/\n3=1\/L.length+P.length=0/\n3=2\/L.length+P.length=1/\n3=1) (K9:L'.length+P'.length=L.length+P.length+n3):
  Calls prog 314 #[.pointer (some ⟨o,0,none⟩),.slice Ap np cp,.slice Al nl cl] w fun e w'=>∃F',e=.returned (.int .i64 0)/\lH w' F' o L' P'/\gT (OS o Fl (.slice A1 n1 c1) (.slice A2 n2 c2)) F' w w':=by
 have c0:=hi.blk.cell 0;have c1':=hi.blk.cell 1;have c3:=hi.blk.cell 3;simp at c0 c1' c3;have HG:=dH hg;have HI:=dH hi;have hle:L'.length+P'.length<=100:=by omega
 clear hi hg;go_enter func314,ntmps314;go_wp2_with fail;refine HG.o.mono ?_;rintro e w1 ⟨A3,Kv,WZ,A4,n4,c4,G,c,rfl,zf,RO,hv3,hv4,zY,PD,hoR,dR⟩;have dS:Below w.heap.size w (w1.alloc (.cells #[.slice A3 Kv WZ,.slice A4 n4 c4] 288)):=dR.alloc dR.size _;have pE:=dH (dN.alloc zf (.cells #[.slice A3 Kv WZ,.slice A4 n4 c4] 288));have sU:=dH (dN.alloc RO (.cells #[.slice A3 Kv WZ,.slice A4 n4 c4] 288));have OR:=dN.alloc hoR (.cells #[.slice A3 Kv WZ,.slice A4 n4 c4] 288);have eE:=dH (Blk.new w1 288 #[.slice A3 Kv WZ,.slice A4 n4 c4]);have hq:w.heap.size<=w1.heap.size:=dR.size;have Rg:w1.heap.size < (w1.alloc (.cells #[.slice A3 Kv WZ,.slice A4 n4 c4] 288)).heap.size:=by simp
 obtain ⟨w2,eV⟩:=dB (w1.alloc (.cells #[.slice A3 Kv WZ,.slice A4 n4 c4] 288));rw [<-eV] at dS pE sU OR eE Rg;obtain ⟨q,lN⟩:=dB w1.heap.size;rw [<-lN] at eE Rg hq;have Ri:=HI.o.blk.lt;have KD:=HI.o.blk.below dS Ri;have d2:=KD.cell 2;simp at d2;have pR:=dH eV;have HQ:=dH lN;have eG:=dH dS;have Bh:Strs w2 (some ⟨G,0,none⟩) n3 c P3:=fZ.strs' Un OR (fun x hx=>by have:=hr x hx;omega);have HA:=dH (FO (HI.o.log.kp (eR (S:=fun _=>False) dS) (nF Fl)) (some ⟨G,0,none⟩) n3 c P3 Bh hr (fun g off hg=>by cases hg;exact fun hF=>by have:=HI.o.log.bnd _ hF;have:=(dN.ge OR G rfl).1;omega) h1 hk);have HR:=dH OR;have Hw:=dH hv3;have GB:=dH hv4;have Vh:=dH zY;have HN4:=dH PD;clear zf RO hv3 hv4 zY PD hoR dR dS OR eV lN KD c0 c1' c3 HG Bh hk hr;go_upto_region 7 with (fail);rw [<-pR.o,<-HQ.o];go_wp2_with fail;refine HA.o.mono ?_;rintro e w3 ⟨PY,rfl,XG,st3⟩;have hnF:¬ PY o:=fun hF=>by
  rcases st3.gro o hF with h|h
  ·exact HI.o.ho h
  ·have:=eG.o.size;omega
 have iP:=(HI.o.blk.below eG.o Ri).kp st3.keeps HI.o.ho;have jR:=eE.o.kp st3.keeps (fun hF=>by have:=HI.o.log.bnd q hF;omega);have b0:=iP.cell 0;have b1:=iP.cell 1;have b3:=iP.cell 3;have q0:=jR.cell 0;have q1:=jR.cell 1;simp at b0 b1 b3 q0 q1;have y0:=iP.frozen 0;have y1:=iP.frozen 1;have y3:=iP.frozen 3;have hqo:q≠o:=by omega
 have HD:=dH (Ma HI.o eG.o pE.o sU.o Hw.o GB.o Vh.o HN4.o (by rw [K9];exact XG) st3);clear XG st3 iP jR HA d2;go_wp2_with fail;go_ret;exact ⟨_,rfl,HD.o (by omega) (by omega)⟩
theorem Aw {w:World} {B size n g cap:Nat} {xs:List Value} (h:dN w B size (.slice (some ⟨g,0,none⟩) n cap) n xs):∀k,(Value.slice (some ⟨g,0,none⟩) n cap).ownBlock=some k->B<=k:=fun k hk=>(dN.ge h k hk).1
theorem Xv {w:World} {o:Nat} {F:BS} (h:lH w F o [] []) (p:List UInt8) (hp1:1<=p.length) (hp2:p.length<=256) (x:dV) (hx:D7 x) (hs:x.seq=1) (hrc:r9 x=0) (he:(gG x).length<=999) (gp cp gl cl:Nat)
  (BW:gp < w.heap.size) (sj:w.cell? ⟨gp,0,none⟩=some (.string (bs p))) (pS:gl < w.heap.size) (hcl:∀j u,(oc x)[j]? =some u->w.cell? ⟨gl,0+j,none⟩=some u):
  Calls prog 314 #[.pointer (some ⟨o,0,none⟩),.slice (some ⟨gp,0,none⟩) 1 cp,.slice (some ⟨gl,0,none⟩) 1 cl] w fun e w'=>∃F',e=.returned (.int .i64 0)/\lH w' F' o [x] [p]/\gT F F' w w':=by
 obtain ⟨l,v1,v2,Fl,hi,rfl⟩:=h;obtain rfl:=hi.n1 rfl;obtain rfl:=hi.n2 rfl;refine As hi _ _ 1 cp 1 cl 2 [112 :: p,111 :: gG x] ((Qp p hp1 hp2 gp cp x hx hs hrc gl cl w BW sj pS hcl).mono ?_) rfl (by
  intro r hr;simp only [aR,bJ,or_false] at hr;rcases hr with rfl|rfl <;> simp <;> omega) (by decide) (.inr (.inl ⟨rfl,rfl⟩)) rfl
 rintro e w1 ⟨G1,c1,G2,c2,G3,c3,rfl,h1,h2,h3,hb⟩;exact ⟨_,_,_,_,_,_,_,_,rfl,dN.mono h1 (aT _),dN.mono h2 (aT _),fun g hg=>.inr (Aw h1 g hg),fun g hg=>.inr (Aw h2 g hg),fun e=>(by cases e),fun e=>(by cases e),h3,hb⟩
theorem Xw {w:World} {o:Nat} {F:BS} (h:lH w F o [] []) (x:dV) (hx:D7 x) (hs:x.seq=1) (hrc:r9 x=0) (he:(gG x).length<=999) (gl cl:Nat)
  (pS:gl < w.heap.size) (hcl:∀j u,(oc x)[j]? =some u->w.cell? ⟨gl,0+j,none⟩=some u):
  Calls prog 314 #[.pointer (some ⟨o,0,none⟩),.slice none 0 0,.slice (some ⟨gl,0,none⟩) 1 cl] w fun e w'=>∃F',e=.returned (.int .i64 0)/\lH w' F' o [x] []/\gT F F' w w':=by
 obtain ⟨l,v1,v2,Fl,hi,rfl⟩:=h;obtain rfl:=hi.n1 rfl;obtain rfl:=hi.n2 rfl;refine As hi _ _ 0 0 1 cl 1 [111 :: gG x] ((Qq x hx hs hrc gl cl w pS hcl).mono ?_) rfl (by
  intro r hr;simp only [aR,bJ,or_false] at hr;rcases hr with rfl <;> simp <;> omega) (by decide) (.inl ⟨rfl,rfl⟩) rfl
 rintro e w1 ⟨G1,c1,G3,c3,rfl,h1,h3,hb⟩;exact ⟨_,_,_,_,_,_,_,_,rfl,dN.mono h1 (aT _),dN.nil_ _ _ _,fun g hg=>.inr (Aw h1 g hg),fun g hg=>(by cases hg),fun e=>(by cases e),fun _=>rfl,h3,hb⟩
theorem Xx {w:World} {o:Nat} {F:BS} {x:dV} (h:lH w F o [x] []) (p:List UInt8) (hp1:1<=p.length) (hp2:p.length<=256) (gp cp:Nat)
  (BW:gp < w.heap.size) (sj:w.cell? ⟨gp,0,none⟩=some (.string (bs p))):
  Calls prog 314 #[.pointer (some ⟨o,0,none⟩),.slice (some ⟨gp,0,none⟩) 1 cp,.slice none 0 0] w fun e w'=>∃F',e=.returned (.int .i64 0)/\lH w' F' o [x] [p]/\gT F F' w w':=by
 obtain ⟨l,v1,v2,Fl,hi,rfl⟩:=h;obtain rfl:=hi.n2 rfl;have ho:=hi.ops;have hn:=hi.n1;obtain ⟨A,c,rfl⟩:=lB hi.ops;refine As hi _ _ 1 cp 0 0 1 [112 :: p] ((Qr p hp1 hp2 gp cp A _ c w BW sj).mono ?_) rfl (by
  intro r hr;simp only [aR,bJ,or_false] at hr;rcases hr with rfl <;> simp <;> omega) (by decide) (.inr (.inr ⟨rfl,rfl⟩)) rfl
 rintro e w1 ⟨G2,c2,G3,c3,rfl,h2,h3,hb⟩;exact ⟨_,_,_,_,_,_,_,_,rfl,dN.below ho hb,dN.mono h2 (aT _),fun g hg=>.inl hg,fun g hg=>.inr (Aw h2 g hg),hn,fun e=>(by cases e),h3,hb⟩
abbrev FR (f b:Nat):Value:=.func (.func f) #[] #[.pointer (some ⟨b,0,none⟩)]
theorem Xy (g:Nat) (eg:∀args w,(callFunc g args).run prog w=.ok (.enter g args) w) (x:Int) (hin:∀wr,Calls prog g #[.int .i64 x] wr (dJ wr (.bool true))) (b:Nat) (w:World) (_hb:b < w.heap.size) (hc:w.cell? ⟨b,0,none⟩=some (.func (.func g) #[] #[])):
  Calls prog 323 #[.int .i64 x,.pointer (some ⟨b,0,none⟩)] w (dJ w (.bool false)):=by
 have XD:=dH hin;clear hin;go_enter func323,ntmps323;go_wp2_with fail;refine (XD.o _).mono ?_;rintro e w2 ⟨rfl,dS⟩;have HB:=dH (dS);clear dS;go_wp2_with fail;go_ret;exact ⟨rfl,HB.o⟩
theorem Mb (v:Value) (w:World):Calls prog 381 #[.slice none 0 0,v] w (dJ w (.int .i64 (-1))):=by
 go_enter func381,ntmps381;go_wp2_with fail;refine wp_loop_rounds 1 ?_;rw [rounds_succ];go_wp2_with fail;go_ret;exact ⟨rfl,aC _ _⟩
theorem Mc (x:Int) (q b off c:Nat) (w:World) (hc:w.cell? ⟨b,off,none⟩=some (.int .i64 x)) (hcl:Calls prog 323 #[.int .i64 x,.pointer (some ⟨q,0,none⟩)] w (dJ w (.bool false))):
  Calls prog 381 #[.slice (some ⟨b,off,none⟩) 1 c,FR 323 q] w (dJ w (.int .i64 (-1))):=by
 have wk:=dH hcl;clear hcl;unfold FR;go_enter func381,ntmps381;go_wp2_with fail;refine wp_loop_rounds 2 ?_;rw [rounds_succ];go_wp2_with fail;refine wk.o.mono ?_;rintro e w1 ⟨rfl,hb⟩;have HB:=dH hb;clear hb;go_wp2_with fail;rw [rounds_succ];go_wp2_with fail;go_ret;exact ⟨rfl,HB.o⟩
theorem Md (v:Value) (w:World):Calls prog 322 #[.slice none 0 0,v] w (dJ w (.bool false)):=by
 go_enter func322,ntmps322;go_wp2_with fail;refine (Mb _ _).mono ?_;rintro e w1 ⟨rfl,hb⟩;have HB:=dH hb;clear hb;go_wp2_with fail;go_ret;exact ⟨rfl,HB.o⟩
theorem Me (x:Int) (q b off c:Nat) (w:World) (hc:w.cell? ⟨b,off,none⟩=some (.int .i64 x)) (hcl:Calls prog 323 #[.int .i64 x,.pointer (some ⟨q,0,none⟩)] w (dJ w (.bool false))):
  Calls prog 322 #[.slice (some ⟨b,off,none⟩) 1 c,FR 323 q] w (dJ w (.bool false)):=by
 have HI:=dH (Mc x q b off c w hc hcl);unfold FR at HI ⊢;clear hc hcl;go_enter func322,ntmps322;go_wp2_with fail;refine HI.o.mono ?_;rintro e w1 ⟨rfl,hb⟩;have HB:=dH hb;clear hb;go_wp2_with fail;go_ret;exact ⟨rfl,HB.o⟩
theorem FT (most:Nat) (g:Nat) (w:World):Calls prog 265 #[.slice none 0 0,.int .i64 (most:Nat),.func (.func g) #[] #[]] w (dJ w (.bool true)):=by
 have dR:=dD w (.cells #[.func (.func g) #[] #[]] 162);have eH:=dH dR;clear dR;have hm:decide ((0:Int)<=(most:Int))=true:=by simp
 go_enter func265,ntmps265;go_wp2_with fail;refine (Md _ _).mono ?_;rintro e w1 ⟨rfl,hb⟩;have HB:=dF eH hb;clear hb;go_wp2_with fail;go_ret;exact ⟨rfl,HB.o⟩
theorem U2 (most:Nat) (TR:1<=most) (g:Nat) (eg:∀args w,(callFunc g args).run prog w=.ok (.enter g args) w) (x:Int) (hin:∀wr,Calls prog g #[.int .i64 x] wr (dJ wr (.bool true))) (b off c:Nat) (w:World) (hlt:b < w.heap.size) (hc:w.cell? ⟨b,off,none⟩=some (.int .i64 x)):
  Calls prog 265 #[.slice (some ⟨b,off,none⟩) 1 c,.int .i64 (most:Nat),.func (.func g) #[] #[]] w (dJ w (.bool true)):=by
 have dR:=dD w (.cells #[.func (.func g) #[] #[]] 162);have Dy:=dH (Me x w.heap.size b off c (w.alloc (.cells #[.func (.func g) #[] #[]] 162)) ((aI (a:=⟨b,off,none⟩) (dR.block b hlt)).trans hc) (Xy g eg x hin _ _ (by simp) (by simp)));have eH:=dH dR;clear dR hin hc;have hm:decide ((1:Int)<=(most:Int))=true:=by simp;omega
 unfold FR at Dy;go_enter func265,ntmps265;go_wp2_with fail;refine Dy.o.mono ?_;rintro e w1 ⟨rfl,hb⟩;have HB:=dF eH hb;clear hb;go_wp2_with fail;go_ret;exact ⟨rfl,HB.o⟩
theorem Xz (g:Nat) (eg:∀args w,(callFunc g args).run prog w=.ok (.enter g args) w) (x:List UInt8) (hin:∀wr,Calls prog g #[.string (bs x)] wr (dJ wr (.bool true))) (b:Nat) (w:World) (_hb:b < w.heap.size) (hc:w.cell? ⟨b,0,none⟩=some (.func (.func g) #[] #[])):
  Calls prog 324 #[.string (bs x),.pointer (some ⟨b,0,none⟩)] w (dJ w (.bool false)):=by
 have XD:=dH hin;clear hin;go_enter func324,ntmps324;go_wp2_with fail;refine (XD.o _).mono ?_;rintro e w2 ⟨rfl,dS⟩;have HB:=dH (dS);clear dS;go_wp2_with fail;go_ret;exact ⟨rfl,HB.o⟩
theorem Mf (v:Value) (w:World):Calls prog 99 #[.slice none 0 0,v] w (dJ w (.int .i64 (-1))):=by
 go_enter func99,ntmps99;go_wp2_with fail;refine wp_loop_rounds 1 ?_;rw [rounds_succ];go_wp2_with fail;go_ret;exact ⟨rfl,aC _ _⟩
theorem Mg (x:List UInt8) (q b off c:Nat) (w:World) (hc:w.cell? ⟨b,off,none⟩=some (.string (bs x))) (hcl:Calls prog 324 #[.string (bs x),.pointer (some ⟨q,0,none⟩)] w (dJ w (.bool false))):
  Calls prog 99 #[.slice (some ⟨b,off,none⟩) 1 c,FR 324 q] w (dJ w (.int .i64 (-1))):=by
 have wk:=dH hcl;clear hcl;unfold FR;go_enter func99,ntmps99;go_wp2_with fail;refine wp_loop_rounds 2 ?_;rw [rounds_succ];go_wp2_with fail;refine wk.o.mono ?_;rintro e w1 ⟨rfl,hb⟩;have HB:=dH hb;clear hb;go_wp2_with fail;rw [rounds_succ];go_wp2_with fail;go_ret;exact ⟨rfl,HB.o⟩
theorem Mh (v:Value) (w:World):Calls prog 51 #[.slice none 0 0,v] w (dJ w (.bool false)):=by
 go_enter func51,ntmps51;go_wp2_with fail;refine (Mf _ _).mono ?_;rintro e w1 ⟨rfl,hb⟩;have HB:=dH hb;clear hb;go_wp2_with fail;go_ret;exact ⟨rfl,HB.o⟩
theorem Mi (x:List UInt8) (q b off c:Nat) (w:World) (hc:w.cell? ⟨b,off,none⟩=some (.string (bs x))) (hcl:Calls prog 324 #[.string (bs x),.pointer (some ⟨q,0,none⟩)] w (dJ w (.bool false))):
  Calls prog 51 #[.slice (some ⟨b,off,none⟩) 1 c,FR 324 q] w (dJ w (.bool false)):=by
 have HI:=dH (Mg x q b off c w hc hcl);unfold FR at HI ⊢;clear hc hcl;go_enter func51,ntmps51;go_wp2_with fail;refine HI.o.mono ?_;rintro e w1 ⟨rfl,hb⟩;have HB:=dH hb;clear hb;go_wp2_with fail;go_ret;exact ⟨rfl,HB.o⟩
theorem sH (most:Nat) (g:Nat) (w:World):Calls prog 267 #[.slice none 0 0,.int .i64 (most:Nat),.func (.func g) #[] #[]] w (dJ w (.bool true)):=by
 have dR:=dD w (.cells #[.func (.func g) #[] #[]] 45);have eH:=dH dR;clear dR;have hm:decide ((0:Int)<=(most:Int))=true:=by simp
 go_enter func267,ntmps267;go_wp2_with fail;refine (Mh _ _).mono ?_;rintro e w1 ⟨rfl,hb⟩;have HB:=dF eH hb;clear hb;go_wp2_with fail;go_ret;exact ⟨rfl,HB.o⟩
theorem Mj (most:Nat) (TR:1<=most) (g:Nat) (eg:∀args w,(callFunc g args).run prog w=.ok (.enter g args) w) (x:List UInt8) (hin:∀wr,Calls prog g #[.string (bs x)] wr (dJ wr (.bool true))) (b off c:Nat) (w:World) (hlt:b < w.heap.size) (hc:w.cell? ⟨b,off,none⟩=some (.string (bs x))):
  Calls prog 267 #[.slice (some ⟨b,off,none⟩) 1 c,.int .i64 (most:Nat),.func (.func g) #[] #[]] w (dJ w (.bool true)):=by
 have dR:=dD w (.cells #[.func (.func g) #[] #[]] 45);have Dy:=dH (Mi x w.heap.size b off c (w.alloc (.cells #[.func (.func g) #[] #[]] 45)) ((aI (a:=⟨b,off,none⟩) (dR.block b hlt)).trans hc) (Xz g eg x hin _ _ (by simp) (by simp)));have eH:=dH dR;clear dR hin hc;have hm:decide ((1:Int)<=(most:Int))=true:=by simp;omega
 unfold FR at Dy;go_enter func267,ntmps267;go_wp2_with fail;refine Dy.o.mono ?_;rintro e w1 ⟨rfl,hb⟩;have HB:=dF eH hb;clear hb;go_wp2_with fail;go_ret;exact ⟨rfl,HB.o⟩
theorem Y0 (g:Nat) (eg:∀args w,(callFunc g args).run prog w=.ok (.enter g args) w) (x:dV) (hin:∀wr,Calls prog g #[ov x] wr (dJ wr (.bool true))) (b:Nat) (w:World) (hb:b < w.heap.size) (hc:w.cell? ⟨b,0,none⟩=some (.func (.func g) #[] #[])):
  Calls prog 326 #[ov x,.pointer (some ⟨b,0,none⟩)] w (dJ w (.bool false)):=by
 have XD:=dH hin;clear hin;have fq:Blk (w.alloc (.cells (oc x).toArray 32)) w.heap.size 32 (oc x).toArray:=Blk.new w 32 (oc x).toArray;have dR:=dD w (.cells (oc x).toArray 32);have hc1:=(aI (a:=⟨b,0,none⟩) (dR.block b hb)).trans hc;obtain ⟨w1,hw1⟩:=dB (w.alloc (.cells (oc x).toArray 32));rw [<-hw1] at fq dR hc1;obtain ⟨q,hq⟩:=dB w.heap.size;rw [<-hq] at fq;have HW:=dH (dK (x:=x) hw1);have HQ:=dH hq;have eH:=dH dR;obtain ⟨c0,c1,c2,c3,c4,c5,c6,c7,c8,c9,jt⟩:=eO fq;clear fq dR hw1 hq hc;unfold ov at XD ⊢;go_enter func326,ntmps326;go_upto_region 1 with (fail);rw [<-HW.o,<-HQ.o];go_wp2_with fail;refine (XD.o _).mono ?_;rintro e w2 ⟨rfl,dS⟩;have HB:=dF eH dS;clear dS;go_wp2_with fail;go_ret;exact ⟨rfl,HB.o⟩
theorem Mk (v:Value) (w:World):Calls prog 59 #[.slice none 0 0,v] w (dJ w (.int .i64 (-1))):=by
 go_enter func59,ntmps59;go_wp2_with fail;refine wp_loop_rounds 1 ?_;rw [rounds_succ];go_wp2_with fail;go_ret;exact ⟨rfl,aC _ _⟩
theorem Ml (x:dV) (q b off c:Nat) (w:World) (hc:∀j u,(oc x)[j]? =some u->w.cell? ⟨b,off+j,none⟩=some u) (hcl:Calls prog 326 #[ov x,.pointer (some ⟨q,0,none⟩)] w (dJ w (.bool false))):
  Calls prog 59 #[.slice (some ⟨b,off,none⟩) 1 c,FR 326 q] w (dJ w (.int .i64 (-1))):=by
 have wk:=dH hcl;have c0:=hc 0 _ rfl;have c1:=hc 1 _ rfl;have c2:=hc 2 _ rfl;have c3:=hc 3 _ rfl;have c4:=hc 4 _ rfl;have c5:=hc 5 _ rfl;have c6:=hc 6 _ rfl;have c7:=hc 7 _ rfl;have c8:=hc 8 _ rfl;have c9:=hc 9 _ rfl;have jt:=hc 10 _ rfl;simp only [bQ] at c0;clear hc hcl;unfold ov at wk;unfold FR;go_enter func59,ntmps59;go_wp2_with fail;refine wp_loop_rounds 2 ?_;rw [rounds_succ];go_wp2_with fail;refine wk.o.mono ?_;rintro e w1 ⟨rfl,hb⟩;have HB:=dH hb;clear hb;go_wp2_with fail;rw [rounds_succ];go_wp2_with fail;go_ret;exact ⟨rfl,HB.o⟩
theorem Mm (v:Value) (w:World):Calls prog 325 #[.slice none 0 0,v] w (dJ w (.bool false)):=by
 go_enter func325,ntmps325;go_wp2_with fail;refine (Mk _ _).mono ?_;rintro e w1 ⟨rfl,hb⟩;have HB:=dH hb;clear hb;go_wp2_with fail;go_ret;exact ⟨rfl,HB.o⟩
theorem Mn (x:dV) (q b off c:Nat) (w:World) (hc:∀j u,(oc x)[j]? =some u->w.cell? ⟨b,off+j,none⟩=some u) (hcl:Calls prog 326 #[ov x,.pointer (some ⟨q,0,none⟩)] w (dJ w (.bool false))):
  Calls prog 325 #[.slice (some ⟨b,off,none⟩) 1 c,FR 326 q] w (dJ w (.bool false)):=by
 have HI:=dH (Ml x q b off c w hc hcl);unfold FR at HI ⊢;clear hc hcl;go_enter func325,ntmps325;go_wp2_with fail;refine HI.o.mono ?_;rintro e w1 ⟨rfl,hb⟩;have HB:=dH hb;clear hb;go_wp2_with fail;go_ret;exact ⟨rfl,HB.o⟩
theorem FU (most:Nat) (g:Nat) (w:World):Calls prog 269 #[.slice none 0 0,.int .i64 (most:Nat),.func (.func g) #[] #[]] w (dJ w (.bool true)):=by
 have dR:=dD w (.cells #[.func (.func g) #[] #[]] 80);have eH:=dH dR;clear dR;have hm:decide ((0:Int)<=(most:Int))=true:=by simp
 go_enter func269,ntmps269;go_wp2_with fail;refine (Mm _ _).mono ?_;rintro e w1 ⟨rfl,hb⟩;have HB:=dF eH hb;clear hb;go_wp2_with fail;go_ret;exact ⟨rfl,HB.o⟩
theorem U3 (most:Nat) (TR:1<=most) (g:Nat) (eg:∀args w,(callFunc g args).run prog w=.ok (.enter g args) w) (x:dV) (hin:∀wr,Calls prog g #[ov x] wr (dJ wr (.bool true))) (b off c:Nat) (w:World) (hlt:b < w.heap.size) (hc:∀j u,(oc x)[j]? =some u->w.cell? ⟨b,off+j,none⟩=some u):
  Calls prog 269 #[.slice (some ⟨b,off,none⟩) 1 c,.int .i64 (most:Nat),.func (.func g) #[] #[]] w (dJ w (.bool true)):=by
 have dR:=dD w (.cells #[.func (.func g) #[] #[]] 80);have Dy:=dH (Mn x w.heap.size b off c (w.alloc (.cells #[.func (.func g) #[] #[]] 80)) (fun j u hu=>(aI (a:=⟨b,off+j,none⟩) (dR.block b hlt)).trans (hc j u hu)) (Y0 g eg x hin _ _ (by simp) (by simp)));have eH:=dH dR;clear dR hin hc;have hm:decide ((1:Int)<=(most:Int))=true:=by simp;omega
 unfold FR at Dy;go_enter func269,ntmps269;go_wp2_with fail;refine Dy.o.mono ?_;rintro e w1 ⟨rfl,hb⟩;have HB:=dF eH hb;clear hb;go_wp2_with fail;go_ret;exact ⟨rfl,HB.o⟩
theorem Mo (x:dV) (hx:D7 x) (hrc:r9 x=0) (w:World):Calls prog 197 #[ov x] w (dJ w (.string (bs (Pt.Cd.textL (gG x))))):=by
 have HE:=dH (qH x hx hrc);have EI:=l8 x hx;have fq:Blk (w.alloc (.cells (oc x).toArray 32)) w.heap.size 32 (oc x).toArray:=Blk.new w 32 (oc x).toArray;have dR:=dD w (.cells (oc x).toArray 32);obtain ⟨w1,hw1⟩:=dB (w.alloc (.cells (oc x).toArray 32));rw [<-hw1] at fq dR;obtain ⟨q,hq⟩:=dB w.heap.size;rw [<-hq] at fq;have HW:=dH (dK (x:=x) hw1);have HQ:=dH hq;have eH:=dH dR;have HLN:=dH EI;obtain ⟨c0,c1,c2,c3,c4,c5,c6,c7,c8,c9,jt⟩:=eO fq;clear fq dR hw1 hq hx hrc EI;unfold ov at HE ⊢;go_enter func197,ntmps197;go_upto_region 1 with (fail);rw [<-HW.o,<-HQ.o];go_wp2_with fail;refine (HE.o _).mono ?_;rintro e w2 ⟨rfl,dS⟩;have eG:=dF eH dS;clear dS c0 c1 c2 c3 c4 c5 c6 c7 c8 c9 jt HE;go_wp2_with fail;refine (Pt.Cd.text_c (gG x) _ (by have:=HLN.o;omega)).mono ?_;rintro e w3 ⟨rfl,di⟩;have dw:=dF eG di;clear di;go_wp2_with fail;go_ret;exact ⟨rfl,dw.o⟩
theorem Qs (w:World):Calls prog 193 #[.slice none 0 0,.func (.func 178) #[] #[]] w (dJ w (.string (bs (Pt.Cd.numL 0)))):=by
 have iZ:=Pt.Bld.fresh w;have dR:=dD w (.cells #[.pointer none,.slice none 0 0] 261);obtain ⟨w1,hw1⟩:=dB (w.alloc (.cells #[.pointer none,.slice none 0 0] 261));rw [<-hw1] at iZ dR;obtain ⟨b0,hb0⟩:=dB w.heap.size;rw [<-hb0] at iZ dR;have HW:=dH hw1;have HQ:=dH hb0;have qM:=dH iZ;have HB:=dH dR;have hle:∀W:World,Below b0 w W->b0<=W.heap.size:=fun W h=>by have:=h.size;omega
 clear iZ hw1 dR;have hsz:w.heap.size=b0:=hb0.symm;unfold dJ;rw [hsz];clear hsz hb0;go_enter func193,ntmps193;go_upto_region 2 with (fail);rw [<-HW.o,<-HQ.o];go_wp2_with fail;refine (Pt.Cd.num_c 0 _ (by decide)).mono ?_;rintro e w2 ⟨rfl,dS⟩;have nH:=dH (Pt.Bld.below qM.o dS);have eG:=dH (HB.o.trans (dS.mono (hle _ HB.o)));clear dS qM HB;go_wp2_with fail;refine (Pt.write_any b0 b0 [] (Pt.Cd.numL 0) _ nH.o (by have:=eL 0;simp;omega) (hle _ eG.o)).mono ?_;rintro e w3 ⟨rfl,iP,di,-⟩;rw [af] at iP;have mP:=dH iP;have dw:=dH (eG.o.trans di);clear iP di nH eG;go_wp2_with fail;refine wp_loop_rounds 1 ?_;rw [rounds_succ];go_wp2_with fail;refine (Pt.string_any b0 b0 _ _ mP.o (hle _ dw.o)).mono ?_;rintro e w4 ⟨rfl,hb4⟩;have fD:=dH (dw.o.trans hb4);clear hb4;go_wp2_with fail;go_ret;exact ⟨rfl,fD.o⟩
theorem Qt (x:Int) (hx:nU x) (b off c:Nat) (w:World) (hlt:b < w.heap.size) (hc:w.cell? ⟨b,off,none⟩=some (.int .i64 x)):
  Calls prog 193 #[.slice (some ⟨b,off,none⟩) 1 c,.func (.func 178) #[] #[]] w (dJ w (.string (bs (Pt.Cd.numL 1++Pt.Cd.numL x)))):=by
 have iZ:=Pt.Bld.fresh w;have dR:=dD w (.cells #[.pointer none,.slice none 0 0] 261);obtain ⟨w1,hw1⟩:=dB (w.alloc (.cells #[.pointer none,.slice none 0 0] 261));rw [<-hw1] at iZ dR;obtain ⟨b0,hb0⟩:=dB w.heap.size;rw [<-hb0] at iZ dR;have HW:=dH hw1;have HQ:=dH hb0;have qM:=dH iZ;have HB:=dH dR;have hle:∀W:World,Below b0 w W->b0<=W.heap.size:=fun W h=>by have:=h.size;omega
 clear iZ hw1 dR;rw [hb0.symm] at hlt;have hsz:w.heap.size=b0:=hb0.symm;unfold dJ;rw [hsz];clear hsz hb0;have HC:=dH hc;clear hc;go_enter func193,ntmps193;go_upto_region 2 with (fail);rw [<-HW.o,<-HQ.o];go_wp2_with fail;refine (Pt.Cd.num_c 1 _ (by decide)).mono ?_;rintro e w2 ⟨rfl,dS⟩;have nH:=dH (Pt.Bld.below qM.o dS);have eG:=dH (HB.o.trans (dS.mono (hle _ HB.o)));clear dS qM HB;go_wp2_with fail;refine (Pt.write_any b0 b0 [] (Pt.Cd.numL 1) _ nH.o (by have:=eL 1;simp;omega) (hle _ eG.o)).mono ?_;rintro e w3 ⟨rfl,iP,di,-⟩;rw [af] at iP;have mP:=dH iP;have dw:=dH (eG.o.trans di);clear iP di nH eG;go_wp2_with fail;refine wp_loop_rounds 2 ?_;rw [rounds_succ];have c0:=(aI (a:=⟨b,off,none⟩) (dw.o.block b hlt)).trans HC.o;have uJ:=mP;have fk:=dw;clear mP dw;go_wp2_with fail;refine (Pt.Cd.num_c x _ hx).mono ?_;rintro e w6 ⟨rfl,iW⟩;have yE:=dH (Pt.Bld.below uJ.o iW);have jc:=dH (fk.o.trans (iW.mono (hle _ fk.o)));clear iW uJ fk c0;go_wp2_with fail;refine (Pt.write_any b0 b0 (Pt.Cd.numL 1) (Pt.Cd.numL x) _ yE.o (by have:=eL 1;have:=eL x;simp;omega) (hle _ jc.o)).mono ?_;rintro e w7 ⟨rfl,EC,lZ,-⟩;have OT:=dH EC;have jl:=dH (jc.o.trans lZ);clear EC lZ yE jc;go_wp2_with fail;rw [rounds_succ];go_wp2_with fail;refine (Pt.string_any b0 b0 _ _ OT.o (hle _ jl.o)).mono ?_;rintro e w8 ⟨rfl,qV⟩;have pG:=dH (jl.o.trans qV);clear qV;go_wp2_with fail;go_ret;exact ⟨rfl,pG.o⟩
theorem Qu (w:World):Calls prog 194 #[.slice none 0 0,.func (.func 195) #[] #[]] w (dJ w (.string (bs (Pt.Cd.numL 0)))):=by
 have iZ:=Pt.Bld.fresh w;have dR:=dD w (.cells #[.pointer none,.slice none 0 0] 261);obtain ⟨w1,hw1⟩:=dB (w.alloc (.cells #[.pointer none,.slice none 0 0] 261));rw [<-hw1] at iZ dR;obtain ⟨b0,hb0⟩:=dB w.heap.size;rw [<-hb0] at iZ dR;have HW:=dH hw1;have HQ:=dH hb0;have qM:=dH iZ;have HB:=dH dR;have hle:∀W:World,Below b0 w W->b0<=W.heap.size:=fun W h=>by have:=h.size;omega
 clear iZ hw1 dR;have hsz:w.heap.size=b0:=hb0.symm;unfold dJ;rw [hsz];clear hsz hb0;go_enter func194,ntmps194;go_upto_region 2 with (fail);rw [<-HW.o,<-HQ.o];go_wp2_with fail;refine (Pt.Cd.num_c 0 _ (by decide)).mono ?_;rintro e w2 ⟨rfl,dS⟩;have nH:=dH (Pt.Bld.below qM.o dS);have eG:=dH (HB.o.trans (dS.mono (hle _ HB.o)));clear dS qM HB;go_wp2_with fail;refine (Pt.write_any b0 b0 [] (Pt.Cd.numL 0) _ nH.o (by have:=eL 0;simp;omega) (hle _ eG.o)).mono ?_;rintro e w3 ⟨rfl,iP,di,-⟩;rw [af] at iP;have mP:=dH iP;have dw:=dH (eG.o.trans di);clear iP di nH eG;go_wp2_with fail;refine wp_loop_rounds 1 ?_;rw [rounds_succ];go_wp2_with fail;refine (Pt.string_any b0 b0 _ _ mP.o (hle _ dw.o)).mono ?_;rintro e w4 ⟨rfl,hb4⟩;have fD:=dH (dw.o.trans hb4);clear hb4;go_wp2_with fail;go_ret;exact ⟨rfl,fD.o⟩
theorem Qv (x:List UInt8) (hx:x.length<=1000000) (b off c:Nat) (w:World) (hlt:b < w.heap.size) (hc:w.cell? ⟨b,off,none⟩=some (.string (bs x))):
  Calls prog 194 #[.slice (some ⟨b,off,none⟩) 1 c,.func (.func 195) #[] #[]] w (dJ w (.string (bs (Pt.Cd.numL 1++Pt.Cd.textL x)))):=by
 have iZ:=Pt.Bld.fresh w;have dR:=dD w (.cells #[.pointer none,.slice none 0 0] 261);obtain ⟨w1,hw1⟩:=dB (w.alloc (.cells #[.pointer none,.slice none 0 0] 261));rw [<-hw1] at iZ dR;obtain ⟨b0,hb0⟩:=dB w.heap.size;rw [<-hb0] at iZ dR;have HW:=dH hw1;have HQ:=dH hb0;have qM:=dH iZ;have HB:=dH dR;have hle:∀W:World,Below b0 w W->b0<=W.heap.size:=fun W h=>by have:=h.size;omega
 clear iZ hw1 dR;rw [hb0.symm] at hlt;have hsz:w.heap.size=b0:=hb0.symm;unfold dJ;rw [hsz];clear hsz hb0;have HC:=dH hc;clear hc;go_enter func194,ntmps194;go_upto_region 2 with (fail);rw [<-HW.o,<-HQ.o];go_wp2_with fail;refine (Pt.Cd.num_c 1 _ (by decide)).mono ?_;rintro e w2 ⟨rfl,dS⟩;have nH:=dH (Pt.Bld.below qM.o dS);have eG:=dH (HB.o.trans (dS.mono (hle _ HB.o)));clear dS qM HB;go_wp2_with fail;refine (Pt.write_any b0 b0 [] (Pt.Cd.numL 1) _ nH.o (by have:=eL 1;simp;omega) (hle _ eG.o)).mono ?_;rintro e w3 ⟨rfl,iP,di,-⟩;rw [af] at iP;have mP:=dH iP;have dw:=dH (eG.o.trans di);clear iP di nH eG;go_wp2_with fail;refine wp_loop_rounds 2 ?_;rw [rounds_succ];have c0:=(aI (a:=⟨b,off,none⟩) (dw.o.block b hlt)).trans HC.o;have uJ:=mP;have fk:=dw;clear mP dw;go_wp2_with fail;refine (Pt.Cd.text_c x _ (by omega)).mono ?_;rintro e w6 ⟨rfl,iW⟩;have yE:=dH (Pt.Bld.below uJ.o iW);have jc:=dH (fk.o.trans (iW.mono (hle _ fk.o)));clear iW uJ fk c0;go_wp2_with fail;refine (Pt.write_any b0 b0 (Pt.Cd.numL 1) (Pt.Cd.textL x) _ yE.o (by have:=eL 1;have:=fK x;simp;omega) (hle _ jc.o)).mono ?_;rintro e w7 ⟨rfl,EC,lZ,-⟩;have OT:=dH EC;have jl:=dH (jc.o.trans lZ);clear EC lZ yE jc;go_wp2_with fail;rw [rounds_succ];go_wp2_with fail;refine (Pt.string_any b0 b0 _ _ OT.o (hle _ jl.o)).mono ?_;rintro e w8 ⟨rfl,qV⟩;have pG:=dH (jl.o.trans qV);clear qV;go_wp2_with fail;go_ret;exact ⟨rfl,pG.o⟩
theorem Qw (w:World):Calls prog 196 #[.slice none 0 0,.func (.func 197) #[] #[]] w (dJ w (.string (bs (Pt.Cd.numL 0)))):=by
 have iZ:=Pt.Bld.fresh w;have dR:=dD w (.cells #[.pointer none,.slice none 0 0] 261);obtain ⟨w1,hw1⟩:=dB (w.alloc (.cells #[.pointer none,.slice none 0 0] 261));rw [<-hw1] at iZ dR;obtain ⟨b0,hb0⟩:=dB w.heap.size;rw [<-hb0] at iZ dR;have HW:=dH hw1;have HQ:=dH hb0;have qM:=dH iZ;have HB:=dH dR;have hle:∀W:World,Below b0 w W->b0<=W.heap.size:=fun W h=>by have:=h.size;omega
 clear iZ hw1 dR;have hsz:w.heap.size=b0:=hb0.symm;unfold dJ;rw [hsz];clear hsz hb0;go_enter func196,ntmps196;go_upto_region 2 with (fail);rw [<-HW.o,<-HQ.o];go_wp2_with fail;refine (Pt.Cd.num_c 0 _ (by decide)).mono ?_;rintro e w2 ⟨rfl,dS⟩;have nH:=dH (Pt.Bld.below qM.o dS);have eG:=dH (HB.o.trans (dS.mono (hle _ HB.o)));clear dS qM HB;go_wp2_with fail;refine (Pt.write_any b0 b0 [] (Pt.Cd.numL 0) _ nH.o (by have:=eL 0;simp;omega) (hle _ eG.o)).mono ?_;rintro e w3 ⟨rfl,iP,di,-⟩;rw [af] at iP;have mP:=dH iP;have dw:=dH (eG.o.trans di);clear iP di nH eG;go_wp2_with fail;refine wp_loop_rounds 1 ?_;rw [rounds_succ];go_wp2_with fail;refine (Pt.string_any b0 b0 _ _ mP.o (hle _ dw.o)).mono ?_;rintro e w4 ⟨rfl,hb4⟩;have fD:=dH (dw.o.trans hb4);clear hb4;go_wp2_with fail;go_ret;exact ⟨rfl,fD.o⟩
theorem Qx (x:dV) (hx:D7 x) (hrc:r9 x=0) (b off c:Nat) (w:World) (hlt:b < w.heap.size) (hc:∀j u,(oc x)[j]? =some u->w.cell? ⟨b,off+j,none⟩=some u):
  Calls prog 196 #[.slice (some ⟨b,off,none⟩) 1 c,.func (.func 197) #[] #[]] w (dJ w (.string (bs (Pt.Cd.numL 1++Pt.Cd.textL (gG x))))):=by
 have iZ:=Pt.Bld.fresh w;have dR:=dD w (.cells #[.pointer none,.slice none 0 0] 261);obtain ⟨w1,hw1⟩:=dB (w.alloc (.cells #[.pointer none,.slice none 0 0] 261));rw [<-hw1] at iZ dR;obtain ⟨b0,hb0⟩:=dB w.heap.size;rw [<-hb0] at iZ dR;have HW:=dH hw1;have HQ:=dH hb0;have qM:=dH iZ;have HB:=dH dR;have hle:∀W:World,Below b0 w W->b0<=W.heap.size:=fun W h=>by have:=h.size;omega
 clear iZ hw1 dR;rw [hb0.symm] at hlt;have hsz:w.heap.size=b0:=hb0.symm;unfold dJ;rw [hsz];clear hsz hb0;have HC:=dH hc;clear hc;have HL:=dH (Mo x hx hrc);have HLN:=dH (l8 x hx);unfold ov at HL;clear hx hrc;go_enter func196,ntmps196;go_upto_region 2 with (fail);rw [<-HW.o,<-HQ.o];go_wp2_with fail;refine (Pt.Cd.num_c 1 _ (by decide)).mono ?_;rintro e w2 ⟨rfl,dS⟩;have nH:=dH (Pt.Bld.below qM.o dS);have eG:=dH (HB.o.trans (dS.mono (hle _ HB.o)));clear dS qM HB;go_wp2_with fail;refine (Pt.write_any b0 b0 [] (Pt.Cd.numL 1) _ nH.o (by have:=eL 1;simp;omega) (hle _ eG.o)).mono ?_;rintro e w3 ⟨rfl,iP,di,-⟩;rw [af] at iP;have mP:=dH iP;have dw:=dH (eG.o.trans di);clear iP di nH eG;go_wp2_with fail;refine wp_loop_rounds 2 ?_;rw [rounds_succ];have hc:∀j u,(oc x)[j]? =some u->w3.cell? ⟨b,off+j,none⟩=some u:=fun j u hu=>(aI (a:=⟨b,off+j,none⟩) (dw.o.block b hlt)).trans (HC.o j u hu)
 have e0:=hc 0 _ rfl;have e1:=hc 1 _ rfl;have e2:=hc 2 _ rfl;have e3:=hc 3 _ rfl;have e4:=hc 4 _ rfl;have e5:=hc 5 _ rfl;have e6:=hc 6 _ rfl;have e7:=hc 7 _ rfl;have e8:=hc 8 _ rfl;have e9:=hc 9 _ rfl;have um:=hc 10 _ rfl;simp only [bQ] at e0;clear hc HC;have uK:Blk (w3.alloc (.cells (oc x).toArray 32)) w3.heap.size 32 (oc x).toArray:=Blk.new w3 32 (oc x).toArray;have eu:=dD w3 (.cells (oc x).toArray 32);obtain ⟨w5,gL⟩:=dB (w3.alloc (.cells (oc x).toArray 32));rw [<-gL] at uK eu;have ug:=dH (dK (x:=x) gL);obtain ⟨q,hq⟩:=dB w3.heap.size;rw [<-hq] at uK;have sg:=dH hq;have Dt:=dH uK;have uJ:=dH (Pt.Bld.below mP.o eu);have fk:=dH (dw.o.trans (eu.mono (hle _ dw.o)));clear uK eu gL hq mP dw;go_upto_region 6 with (fail);rw [<-ug.o,<-sg.o];clear e0 e1 e2 e3 e4 e5 e6 e7 e8 e9 um;obtain ⟨c0,c1,c2,c3,c4,c5,c6,c7,c8,c9,jt⟩:=eO Dt.o;go_wp2_with fail;refine (HL.o _).mono ?_;rintro e w6 ⟨rfl,iW⟩;have yE:=dH (Pt.Bld.below uJ.o iW);have jc:=dH (fk.o.trans (iW.mono (hle _ fk.o)));clear iW uJ fk c0 c1 c2 c3 c4 c5 c6 c7 c8 c9 jt;go_wp2_with fail;refine (Pt.write_any b0 b0 (Pt.Cd.numL 1) (Pt.Cd.textL (gG x)) _ yE.o (by have:=eL 1;have:=fK (gG x);have:=HLN.o;simp;omega) (hle _ jc.o)).mono ?_;rintro e w7 ⟨rfl,EC,lZ,-⟩;have OT:=dH EC;have jl:=dH (jc.o.trans lZ);clear EC lZ yE jc;go_wp2_with fail;rw [rounds_succ];go_wp2_with fail;refine (Pt.string_any b0 b0 _ _ OT.o (hle _ jl.o)).mono ?_;rintro e w8 ⟨rfl,qV⟩;have pG:=dH (jl.o.trans qV);clear qV;go_wp2_with fail;go_ret;exact ⟨rfl,pG.o⟩
end
end Go.Proofs.YtgdaahffmcfhpaaGreatDoor
