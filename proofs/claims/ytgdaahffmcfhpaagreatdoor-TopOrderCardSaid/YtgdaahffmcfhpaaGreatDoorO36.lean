/- Lemmas on the way: Ao Ap Aq Ar At. -/
import Derived.Test.YtgdaahffmcfhpaaGreatDoorO35
set_option maxRecDepth 100000
set_option maxHeartbeats 8000000
namespace Go.Proofs.YtgdaahffmcfhpaaGreatDoor
open aA
open Tryz
section
open Go.RowKit
attribute [local go_sem] dR dO dS dP
variable {w w' W:World} {B l n1 n2 n q:Nat} {xs P P' ks:List (List UInt8)} {F Fl:BS}
theorem OO{w2 w3:World} {o:Nat} {v1 v2 v1' v2':Value} {L L':List dX} {RT:BS} (hi:WY w o l v1 v2 L P Fl) (hb:Below w w w2)
  (ho1:gU w2 0 v1' L') (Cy:fm w2 0 v2' P') (CR:∀g,v1'.ownBlock=some g->v1.ownBlock=some g\/w.heap.size<=g) (RI:∀g,v2'.ownBlock=some g->v2.ownBlock=some g\/w.heap.size<=g)
  (qX:sI v1' L') (hn2:sI v2' P') (hl:zO w3 RT l (L'.length+P'.length)) (st:iP Fl RT w2 w3) (ll:L'.length<=100) (lp:P'.length<=100):
  mA (((w3.setCell (Qc o 3) false).setCell o v1').setCell (Qc o 1) v2') (OS o RT v1' v2') o L' P'/\iP (OS o Fl v1 v2) (OS o RT v1' v2') w (((w3.setCell (Qc o 3) false).setCell o v1').setCell (Qc o 1) v2'):=by
 have jW:=hi.log.bnd;have UB:=hi.blk.lt;have hs2:=hb.size;have k1:dm (OS o Fl v1 v2) w w3:=eF (eO (S:=OS o Fl v1 v2) hb) st.keeps (λi hi h=>.inr (.inl h));have k2:dm (λi=>i=o) w3 (((w3.setCell (Qc o 3) false).setCell o v1').setCell (Qc o 1) v2'):=
  dw (S:=λi=>i=o) (dw (S:=λi=>i=o) (dw (S:=λi=>i=o) (eT (λi=>i=o) w3) ⟨o,3,none⟩ _ (λ_=>rfl)) ⟨o,0,none⟩ _ (λ_=>rfl)) ⟨o,1,none⟩ _ (λ_=>rfl)
 have n1:∀g,v1'.ownBlock=some g->g≠o/\¬ Fl g:=λg hg=>by
  rcases CR g hg with h|h
  ·exact hi.h1 g h
  ·exact ⟨by omega,λhF=>by have:=jW g hF;omega⟩
 have n2:∀g,v2'.ownBlock=some g->g≠o/\¬ Fl g:=λg hg=>by
  rcases RI g hg with h|h
  ·exact hi.h2 g h
  ·exact ⟨by omega,λhF=>by have:=jW g hF;omega⟩
 have m1:∀g,v1'.ownBlock=some g->¬ RT g:=λg hg hF=>by
  rcases st.gro g hF with h|h
  ·exact (n1 g hg).2 h
  ·have:=(dQ.ge ho1 g hg).2;omega
 have m2:∀g,v2'.ownBlock=some g->¬ RT g:=λg hg hF=>by
  rcases st.gro g hF with h|h
  ·exact (n2 g hg).2 h
  ·have:=(dQ.ge Cy g hg).2;omega
 have m3:¬ RT o:=λhF=>by
  rcases st.gro o hF with h|h
  ·exact hi.ho h
  ·omega
 have hB:=(((((hi.blk.below hb UB).kp st.keeps hi.ho).set_ 3 (.bool false)).set_ 0 v1').set_ 1 v2');simp only [aH,aF,aG] at hB;refine ⟨⟨l,v1',v2',RT,⟨hB,dQ.kp (dQ.kp ho1 st.keeps (λg hg=>(n1 g hg).2)) k2 (λg hg=>(n1 g hg).1),dQ.kp (dQ.kp Cy st.keeps (λg hg=>(n2 g hg).2)) k2 (λg hg=>(n2 g hg).1),qX,hn2,hl.kp k2 (λi hF e=>by subst e;exact m3 hF),m3,λg hg=> ⟨(n1 g hg).1,m1 g hg⟩,λg hg=> ⟨(n2 g hg).1,m2 g hg⟩,ll,lp⟩,rfl⟩,⟨eF k1 k2 (λi hi h=>.inl h),?_⟩⟩;rintro i (h|h|h|h)
 ·exact .inl (.inl h)
 ·rcases st.gro i h with h1|h1
  ·exact .inl (.inr (.inl h1))
  ·exact .inr (by omega)
 ·rcases CR i h with h1|h1
  ·exact .inl (.inr (.inr (.inl h1)))
  ·exact .inr h1
 ·rcases RI i h with h1|h1
  ·exact .inl (.inr (.inr (.inr h1)))
  ·exact .inr h1
theorem C7 {o:Nat} {L L':List dX} {A1 A2:Option Addr} {c1 c2:Nat} (hi:WY w o l (.slice A1 n1 c1) (.slice A2 n2 c2) L P Fl) (Ap Al:Option Addr) (np cp nl cl n3:Nat) (R4:List (List UInt8))
  (hg:Calls prog 359 #[.agg #[Qq A1 n1 c1,Qq A2 n2 c2],Qq Ap np cp,Qq Al nl cl] w λe w1=>∃A3 Mn c3 A4 n4 c4 G c,e=.returned (.tuple #[.agg #[.slice A3 Mn c3,.slice A4 n4 c4],.slice (some ⟨G,0,none⟩) n3 c,qn])/\gU w1 0 (.slice A3 Mn c3) L'/\fm w1 0 (.slice A4 n4 c4) P'/\
   (∀g,(Value.slice A3 Mn c3).ownBlock=some g->(Value.slice A1 n1 c1).ownBlock=some g\/w.heap.size<=g)/\(∀g,(Value.slice A4 n4 c4).ownBlock=some g->(Value.slice A2 n2 c2).ownBlock=some g\/w.heap.size<=g)/\
   sI (.slice A3 Mn c3) L'/\sI (.slice A4 n4 c4) P'/\fm w1 w (.slice (some ⟨G,0,none⟩) n3 c) R4/\Below w w w1)
  (XL:R4.length=n3) (hr:∀r∈R4,1<=r.length/\r.length<=1000) (h1:1<=n3) (hk:L.length+P.length=0/\n3=1\/L.length+P.length=0/\n3=2\/L.length+P.length=1/\n3=1) (hsum:L'.length+P'.length=L.length+P.length+n3):
  Calls prog 314 #[Qp o,Qq Ap np cp,Qq Al nl cl] w λe w'=>∃F',e=.returned qn/\mA w' F' o L' P'/\iP (OS o Fl (.slice A1 n1 c1) (.slice A2 n2 c2)) F' w w':=by
 have c0:=hi.blk.cell 0;have c1':=hi.blk.cell 1;have c3:=hi.blk.cell 3;simp at c0 c1' c3;have HG:=dL hg;have HI:=dL hi;have hle:L'.length+P'.length<=100:=by omega
 clear hi hg;go_enter func314,ntmps314;go_wp2_with fail;refine HG.o.mono ?_;rintro e w1 ⟨A3,Mn,Vq,A4,n4,c4,G,c,rfl,BB,Td,hv3,hv4,yO,RB,hoR,dV⟩;have dY:Below w w (w1.alloc (.cells #[.slice A3 Mn Vq,.slice A4 n4 c4] 288)):=dV.alloc dV.size _;have qL:=dL (dQ.alloc BB (.cells #[.slice A3 Mn Vq,.slice A4 n4 c4] 288));have rI:=dL (dQ.alloc Td (.cells #[.slice A3 Mn Vq,.slice A4 n4 c4] 288));have Qc:=dQ.alloc hoR (.cells #[.slice A3 Mn Vq,.slice A4 n4 c4] 288);have fG:=dL (Blk.new w1 288 #[.slice A3 Mn Vq,.slice A4 n4 c4]);have hq:w.heap.size<=w1.heap.size:=dV.size;have Tz:w1.heap.size < (w1.alloc (.cells #[.slice A3 Mn Vq,.slice A4 n4 c4] 288)).heap.size:=by simp
 obtain ⟨w2,eV⟩:=dG (w1.alloc (.cells #[.slice A3 Mn Vq,.slice A4 n4 c4] 288));rw [<-eV] at dY qL rI Qc fG Tz;obtain ⟨q,iC⟩:=dG w1.heap.size;rw [<-iC] at fG Tz hq;have UB:=HI.o.blk.lt;have CX:=HI.o.blk.below dY UB;have d2:=CX.cell 2;simp at d2;have rH:=dL eV;have HQ:=dL iC;have eA:=dL dY;have Je:Strs w2 (some ⟨G,0,none⟩) n3 c R4:=fm.strs' XL Qc (λx hx=>by have:=hr x hx;omega);have HA:=dL (GX (HI.o.log.kp (eO (S:=λ_=>False) dY) (nt Fl)) (some ⟨G,0,none⟩) n3 c R4 Je hr (λg off hg=>by cases hg;exact λhF=>by have:=HI.o.log.bnd _ hF;have:=(dQ.ge Qc G rfl).1;omega) h1 hk);have HR:=dL Qc;have Tk:=dL hv3;have RO:=dL hv4;have UC:=dL yO;have HN4:=dL RB;clear BB Td hv3 hv4 yO RB hoR dV dY Qc eV iC CX c0 c1' c3 HG Je hk hr;go_upto_region 7 with (fail);rw [<-rH.o,<-HQ.o];go_wp2_with fail;refine HA.o.mono ?_;rintro e w3 ⟨RT,rfl,ZU,st3⟩;have hnF:¬ RT o:=λhF=>by
  rcases st3.gro o hF with h|h
  ·exact HI.o.ho h
  ·have:=eA.o.size;omega
 have j3:=(HI.o.blk.below eA.o UB).kp st3.keeps HI.o.ho;have jG:=fG.o.kp st3.keeps (λhF=>by have:=HI.o.log.bnd q hF;omega);have b0:=j3.cell 0;have b1:=j3.cell 1;have b3:=j3.cell 3;have q0:=jG.cell 0;have q1:=jG.cell 1;simp at b0 b1 b3 q0 q1;have y0:=j3.frozen 0;have y1:=j3.frozen 1;have y3:=j3.frozen 3;have hqo:q≠o:=by omega
 have HD:=dL (OO HI.o eA.o qL.o rI.o Tk.o RO.o UC.o HN4.o (by rw [hsum];exact ZU) st3);clear ZU st3 j3 jG HA d2;go_wp2_with fail;go_ret;exact ⟨_,rfl,HD.o (by omega) (by omega)⟩
theorem C8 {size g cap:Nat} {xs:List Value} (h:dQ w B size (.slice (some g) n cap) n xs):∀k,(Value.slice (some g) n cap).ownBlock=some k->B<=k:=λk hk=>(dQ.ge h k hk).1
theorem aaq {o:Nat} (h:mA w F o [] []) (p:List UInt8) (hp1:1<=p.length) (hp2:p.length<=256) (x:dX) (hx:FQ x) (hs:x.seq=1) (hrc:sG x=0) (he:(gy x).length<=999) (gp cp gl cl:Nat)
  (Cm:gp < w.heap.size) (uE:w.cell? gp=p) (qY:gl < w.heap.size) (hcl:∀j u,(oc x)[j]? =some u->w.cell? ⟨gl,0+j,none⟩=some u):
  Calls prog 314 #[Qp o,Qs gp 1 cp,Qs gl 1 cl] w λe w'=>∃F',e=.returned qn/\mA w' F' o [x] [p]/\iP F F' w w':=by
 obtain ⟨l,v1,v2,Fl,hi,rfl⟩:=h;obtain rfl:=hi.n1 rfl;obtain rfl:=hi.n2 rfl;refine C7 hi _ _ 1 cp 1 cl 2 [112 :: p,111 :: gy x] ((Ss p hp1 hp2 gp cp x hx hs hrc gl cl w Cm uE qY hcl).mono ?_) rfl (by
  intro r hr;simp only [aQ,bH,or_false] at hr;rcases hr with rfl|rfl <;> simp <;> omega) (by decide) (.inr (.inl ⟨rfl,rfl⟩)) rfl
 rintro e w1 ⟨G1,c1,G2,c2,G3,c3,rfl,h1,h2,h3,hb⟩;exact ⟨_,_,_,_,_,_,_,_,rfl,dQ.mono h1 (aS _),dQ.mono h2 (aS _),λg hg=>.inr (C8 h1 g hg),λg hg=>.inr (C8 h2 g hg),λe=>(by cases e),λe=>(by cases e),h3,hb⟩
theorem aar {o:Nat} (h:mA w F o [] []) (x:dX) (hx:FQ x) (hs:x.seq=1) (hrc:sG x=0) (he:(gy x).length<=999) (gl cl:Nat)
  (qY:gl < w.heap.size) (hcl:∀j u,(oc x)[j]? =some u->w.cell? ⟨gl,0+j,none⟩=some u):
  Calls prog 314 #[Qp o,(),Qs gl 1 cl] w λe w'=>∃F',e=.returned qn/\mA w' F' o [x] []/\iP F F' w w':=by
 obtain ⟨l,v1,v2,Fl,hi,rfl⟩:=h;obtain rfl:=hi.n1 rfl;obtain rfl:=hi.n2 rfl;refine C7 hi _ _ 0 0 1 cl 1 [111 :: gy x] ((Su x hx hs hrc gl cl w qY hcl).mono ?_) rfl (by
  intro r hr;simp only [aQ,bH,or_false] at hr;rcases hr with rfl <;> simp <;> omega) (by decide) (.inl ⟨rfl,rfl⟩) rfl
 rintro e w1 ⟨G1,c1,G3,c3,rfl,h1,h3,hb⟩;exact ⟨_,_,_,_,_,_,_,_,rfl,dQ.mono h1 (aS _),dQ.nil_ _ _ _,λg hg=>.inr (C8 h1 g hg),λg hg=>(by cases hg),λe=>(by cases e),λ_=>rfl,h3,hb⟩
theorem aas {o:Nat} {x:dX} (h:mA w F o [x] []) (p:List UInt8) (hp1:1<=p.length) (hp2:p.length<=256) (gp cp:Nat)
  (Cm:gp < w.heap.size) (uE:w.cell? gp=p):
  Calls prog 314 #[Qp o,Qs gp 1 cp,()] w λe w'=>∃F',e=.returned qn/\mA w' F' o [x] [p]/\iP F F' w w':=by
 obtain ⟨l,v1,v2,Fl,hi,rfl⟩:=h;obtain rfl:=hi.n2 rfl;have ho:=hi.ops;have hn:=hi.n1;obtain ⟨A,c,rfl⟩:=lQ hi.ops;refine C7 hi _ _ 1 cp 0 0 1 [112 :: p] ((Sv p hp1 hp2 gp cp A _ c w Cm uE).mono ?_) rfl (by
  intro r hr;simp only [aQ,bH,or_false] at hr;rcases hr with rfl <;> simp <;> omega) (by decide) (.inr (.inr ⟨rfl,rfl⟩)) rfl
 rintro e w1 ⟨G2,c2,G3,c3,rfl,h2,h3,hb⟩;exact ⟨_,_,_,_,_,_,_,_,rfl,dQ.below ho hb,dQ.mono h2 (aS _),λg hg=>.inl hg,λg hg=>.inr (C8 h2 g hg),hn,λe=>(by cases e),h3,hb⟩
abbrev Ga (f b:Nat):Value:=.func (.func f) #[] #[Qp b]
theorem aat (g:Nat) (eg:∀args w,(callFunc g args).run prog w=.ok (.enter g args) w) (x:Int) (hin:∀wr,Calls prog g #[x] wr (dM wr (.bool true))) (b:Nat) (w:World) (_hb:b < w.heap.size) (hc:w.cell? b=some (.func (.func g) #[] #[])):
  Calls prog 323 #[x,Qp b] w (dM w (.bool false)):=by
 have ZP:=dL hin;clear hin;go_enter func323,ntmps323;go_wp2_with fail;refine (ZP.o _).mono ?_;rintro e w2 ⟨rfl,dY⟩;have HB:=dL (dY);clear dY;go_wp2_with fail;go_ret;exact ⟨rfl,HB.o⟩
theorem OP (v:Value) (w:World):Calls prog 381 #[(),v] w (dM w (.int .i64 (-1))):=by
 go_enter func381,ntmps381;go_wp2_with fail;refine wp_loop_rounds 1 ?_;rw [rounds_succ];go_wp2_with fail;go_ret;exact ⟨rfl,aC _ _⟩
theorem OQ (x:Int) (q b off c:Nat) (w:World) (hc:w.cell? (Qc b off)=x) (hcl:Calls prog 323 #[x,Qp q] w (dM w (.bool false))):
  Calls prog 381 #[.slice (some ⟨b,off,none⟩) 1 c,Ga 323 q] w (dM w (.int .i64 (-1))):=by
 have yb:=dL hcl;clear hcl;unfold Ga;go_enter func381,ntmps381;go_wp2_with fail;refine wp_loop_rounds 2 ?_;rw [rounds_succ];go_wp2_with fail;refine yb.o.mono ?_;rintro e w1 ⟨rfl,hb⟩;have HB:=dL hb;clear hb;go_wp2_with fail;rw [rounds_succ];go_wp2_with fail;go_ret;exact ⟨rfl,HB.o⟩
theorem OR (v:Value) (w:World):Calls prog 322 #[(),v] w (dM w (.bool false)):=by
 go_enter func322,ntmps322;go_wp2_with fail;refine (OP _ _).mono ?_;rintro e w1 ⟨rfl,hb⟩;have HB:=dL hb;clear hb;go_wp2_with fail;go_ret;exact ⟨rfl,HB.o⟩
theorem OT (x:Int) (q b off c:Nat) (w:World) (hc:w.cell? (Qc b off)=x) (hcl:Calls prog 323 #[x,Qp q] w (dM w (.bool false))):
  Calls prog 322 #[.slice (some ⟨b,off,none⟩) 1 c,Ga 323 q] w (dM w (.bool false)):=by
 have HI:=dL (OQ x q b off c w hc hcl);unfold Ga at HI ⊢;clear hc hcl;go_enter func322,ntmps322;go_wp2_with fail;refine HI.o.mono ?_;rintro e w1 ⟨rfl,hb⟩;have HB:=dL hb;clear hb;go_wp2_with fail;go_ret;exact ⟨rfl,HB.o⟩
theorem Gb (most:Nat) (g:Nat) (w:World):Calls prog 265 #[(),.int .i64 (most:Nat),.func (.func g) #[] #[]] w (dM w (.bool true)):=by
 have dV:=dH w (.cells #[.func (.func g) #[] #[]] 162);have eR:=dL dV;clear dV;have hm:decide ((0:Int)<=(most:Int))=true:=by simp
 go_enter func265,ntmps265;go_wp2_with fail;refine (OR _ _).mono ?_;rintro e w1 ⟨rfl,hb⟩;have HB:=dJ eR hb;clear hb;go_wp2_with fail;go_ret;exact ⟨rfl,HB.o⟩
theorem WZ (most:Nat) (Vx:1<=most) (g:Nat) (eg:∀args w,(callFunc g args).run prog w=.ok (.enter g args) w) (x:Int) (hin:∀wr,Calls prog g #[x] wr (dM wr (.bool true))) (b off c:Nat) (w:World) (hlt:b < w.heap.size) (hc:w.cell? (Qc b off)=x):
  Calls prog 265 #[.slice (some ⟨b,off,none⟩) 1 c,.int .i64 (most:Nat),.func (.func g) #[] #[]] w (dM w (.bool true)):=by
 have dV:=dH w (.cells #[.func (.func g) #[] #[]] 162);have FA:=dL (OT x w.heap.size b off c (w.alloc (.cells #[.func (.func g) #[] #[]] 162)) ((aM (a:=⟨b,off,none⟩) (dV.block b hlt)).trans hc) (aat g eg x hin _ _ (by simp) (by simp)));have eR:=dL dV;clear dV hin hc;have hm:decide ((1:Int)<=(most:Int))=true:=by simp;omega
 unfold Ga at FA;go_enter func265,ntmps265;go_wp2_with fail;refine FA.o.mono ?_;rintro e w1 ⟨rfl,hb⟩;have HB:=dJ eR hb;clear hb;go_wp2_with fail;go_ret;exact ⟨rfl,HB.o⟩
theorem aau (g:Nat) (eg:∀args w,(callFunc g args).run prog w=.ok (.enter g args) w) (x:List UInt8) (hin:∀wr,Calls prog g #[x] wr (dM wr (.bool true))) (b:Nat) (w:World) (_hb:b < w.heap.size) (hc:w.cell? b=some (.func (.func g) #[] #[])):
  Calls prog 324 #[x,Qp b] w (dM w (.bool false)):=by
 have ZP:=dL hin;clear hin;go_enter func324,ntmps324;go_wp2_with fail;refine (ZP.o _).mono ?_;rintro e w2 ⟨rfl,dY⟩;have HB:=dL (dY);clear dY;go_wp2_with fail;go_ret;exact ⟨rfl,HB.o⟩
theorem OU (v:Value) (w:World):Calls prog 99 #[(),v] w (dM w (.int .i64 (-1))):=by
 go_enter func99,ntmps99;go_wp2_with fail;refine wp_loop_rounds 1 ?_;rw [rounds_succ];go_wp2_with fail;go_ret;exact ⟨rfl,aC _ _⟩
theorem OV (x:List UInt8) (q b off c:Nat) (w:World) (hc:w.cell? (Qc b off)=x) (hcl:Calls prog 324 #[x,Qp q] w (dM w (.bool false))):
  Calls prog 99 #[.slice (some ⟨b,off,none⟩) 1 c,Ga 324 q] w (dM w (.int .i64 (-1))):=by
 have yb:=dL hcl;clear hcl;unfold Ga;go_enter func99,ntmps99;go_wp2_with fail;refine wp_loop_rounds 2 ?_;rw [rounds_succ];go_wp2_with fail;refine yb.o.mono ?_;rintro e w1 ⟨rfl,hb⟩;have HB:=dL hb;clear hb;go_wp2_with fail;rw [rounds_succ];go_wp2_with fail;go_ret;exact ⟨rfl,HB.o⟩
theorem OW (v:Value) (w:World):Calls prog 51 #[(),v] w (dM w (.bool false)):=by
 go_enter func51,ntmps51;go_wp2_with fail;refine (OU _ _).mono ?_;rintro e w1 ⟨rfl,hb⟩;have HB:=dL hb;clear hb;go_wp2_with fail;go_ret;exact ⟨rfl,HB.o⟩
theorem OX (x:List UInt8) (q b off c:Nat) (w:World) (hc:w.cell? (Qc b off)=x) (hcl:Calls prog 324 #[x,Qp q] w (dM w (.bool false))):
  Calls prog 51 #[.slice (some ⟨b,off,none⟩) 1 c,Ga 324 q] w (dM w (.bool false)):=by
 have HI:=dL (OV x q b off c w hc hcl);unfold Ga at HI ⊢;clear hc hcl;go_enter func51,ntmps51;go_wp2_with fail;refine HI.o.mono ?_;rintro e w1 ⟨rfl,hb⟩;have HB:=dL hb;clear hb;go_wp2_with fail;go_ret;exact ⟨rfl,HB.o⟩
theorem tU (most:Nat) (g:Nat) (w:World):Calls prog 267 #[(),.int .i64 (most:Nat),.func (.func g) #[] #[]] w (dM w (.bool true)):=by
 have dV:=dH w (.cells #[.func (.func g) #[] #[]] 45);have eR:=dL dV;clear dV;have hm:decide ((0:Int)<=(most:Int))=true:=by simp
 go_enter func267,ntmps267;go_wp2_with fail;refine (OW _ _).mono ?_;rintro e w1 ⟨rfl,hb⟩;have HB:=dJ eR hb;clear hb;go_wp2_with fail;go_ret;exact ⟨rfl,HB.o⟩
theorem OY (most:Nat) (Vx:1<=most) (g:Nat) (eg:∀args w,(callFunc g args).run prog w=.ok (.enter g args) w) (x:List UInt8) (hin:∀wr,Calls prog g #[x] wr (dM wr (.bool true))) (b off c:Nat) (w:World) (hlt:b < w.heap.size) (hc:w.cell? (Qc b off)=x):
  Calls prog 267 #[.slice (some ⟨b,off,none⟩) 1 c,.int .i64 (most:Nat),.func (.func g) #[] #[]] w (dM w (.bool true)):=by
 have dV:=dH w (.cells #[.func (.func g) #[] #[]] 45);have FA:=dL (OX x w.heap.size b off c (w.alloc (.cells #[.func (.func g) #[] #[]] 45)) ((aM (a:=⟨b,off,none⟩) (dV.block b hlt)).trans hc) (aau g eg x hin _ _ (by simp) (by simp)));have eR:=dL dV;clear dV hin hc;have hm:decide ((1:Int)<=(most:Int))=true:=by simp;omega
 unfold Ga at FA;go_enter func267,ntmps267;go_wp2_with fail;refine FA.o.mono ?_;rintro e w1 ⟨rfl,hb⟩;have HB:=dJ eR hb;clear hb;go_wp2_with fail;go_ret;exact ⟨rfl,HB.o⟩
theorem aav (g:Nat) (eg:∀args w,(callFunc g args).run prog w=.ok (.enter g args) w) (x:dX) (hin:∀wr,Calls prog g #[ov x] wr (dM wr (.bool true))) (b:Nat) (w:World) (hb:b < w.heap.size) (hc:w.cell? b=some (.func (.func g) #[] #[])):
  Calls prog 326 #[ov x,Qp b] w (dM w (.bool false)):=by
 have ZP:=dL hin;clear hin;have gH:Blk (w.alloc (.cells (oc x).toArray 32)) w.heap.size 32 (oc x).toArray:=Blk.new w 32 (oc x).toArray;have dV:=dH w (.cells (oc x).toArray 32);have hc1:=(aM (a:=⟨b,0,none⟩) (dV.block b hb)).trans hc;obtain ⟨w1,hw1⟩:=dG (w.alloc (.cells (oc x).toArray 32));rw [<-hw1] at gH dV hc1;obtain ⟨q,hq⟩:=dG w.heap.size;rw [<-hq] at gH;have HW:=dL (dN (x:=x) hw1);have HQ:=dL hq;have eR:=dL dV;obtain ⟨c0,c1,c2,c3,c4,c5,c6,c7,c8,c9,jX⟩:=dx gH;clear gH dV hw1 hq hc;unfold ov at ZP ⊢;go_enter func326,ntmps326;go_upto_region 1 with (fail);rw [<-HW.o,<-HQ.o];go_wp2_with fail;refine (ZP.o _).mono ?_;rintro e w2 ⟨rfl,dY⟩;have HB:=dJ eR dY;clear dY;go_wp2_with fail;go_ret;exact ⟨rfl,HB.o⟩
theorem OZ (v:Value) (w:World):Calls prog 59 #[(),v] w (dM w (.int .i64 (-1))):=by
 go_enter func59,ntmps59;go_wp2_with fail;refine wp_loop_rounds 1 ?_;rw [rounds_succ];go_wp2_with fail;go_ret;exact ⟨rfl,aC _ _⟩
theorem Oa (x:dX) (q b off c:Nat) (w:World) (hc:∀j u,(oc x)[j]? =some u->w.cell? ⟨b,off+j,none⟩=some u) (hcl:Calls prog 326 #[ov x,Qp q] w (dM w (.bool false))):
  Calls prog 59 #[.slice (some ⟨b,off,none⟩) 1 c,Ga 326 q] w (dM w (.int .i64 (-1))):=by
 have yb:=dL hcl;have c0:=hc 0 _ rfl;have c1:=hc 1 _ rfl;have c2:=hc 2 _ rfl;have c3:=hc 3 _ rfl;have c4:=hc 4 _ rfl;have c5:=hc 5 _ rfl;have c6:=hc 6 _ rfl;have c7:=hc 7 _ rfl;have c8:=hc 8 _ rfl;have c9:=hc 9 _ rfl;have jX:=hc 10 _ rfl;simp only [bZ] at c0;clear hc hcl;unfold ov at yb;unfold Ga;go_enter func59,ntmps59;go_wp2_with fail;refine wp_loop_rounds 2 ?_;rw [rounds_succ];go_wp2_with fail;refine yb.o.mono ?_;rintro e w1 ⟨rfl,hb⟩;have HB:=dL hb;clear hb;go_wp2_with fail;rw [rounds_succ];go_wp2_with fail;go_ret;exact ⟨rfl,HB.o⟩
theorem Ob (v:Value) (w:World):Calls prog 325 #[(),v] w (dM w (.bool false)):=by
 go_enter func325,ntmps325;go_wp2_with fail;refine (OZ _ _).mono ?_;rintro e w1 ⟨rfl,hb⟩;have HB:=dL hb;clear hb;go_wp2_with fail;go_ret;exact ⟨rfl,HB.o⟩
theorem Oc (x:dX) (q b off c:Nat) (w:World) (hc:∀j u,(oc x)[j]? =some u->w.cell? ⟨b,off+j,none⟩=some u) (hcl:Calls prog 326 #[ov x,Qp q] w (dM w (.bool false))):
  Calls prog 325 #[.slice (some ⟨b,off,none⟩) 1 c,Ga 326 q] w (dM w (.bool false)):=by
 have HI:=dL (Oa x q b off c w hc hcl);unfold Ga at HI ⊢;clear hc hcl;go_enter func325,ntmps325;go_wp2_with fail;refine HI.o.mono ?_;rintro e w1 ⟨rfl,hb⟩;have HB:=dL hb;clear hb;go_wp2_with fail;go_ret;exact ⟨rfl,HB.o⟩
theorem Gc (most:Nat) (g:Nat) (w:World):Calls prog 269 #[(),.int .i64 (most:Nat),.func (.func g) #[] #[]] w (dM w (.bool true)):=by
 have dV:=dH w (.cells #[.func (.func g) #[] #[]] 80);have eR:=dL dV;clear dV;have hm:decide ((0:Int)<=(most:Int))=true:=by simp
 go_enter func269,ntmps269;go_wp2_with fail;refine (Ob _ _).mono ?_;rintro e w1 ⟨rfl,hb⟩;have HB:=dJ eR hb;clear hb;go_wp2_with fail;go_ret;exact ⟨rfl,HB.o⟩
theorem Wa (most:Nat) (Vx:1<=most) (g:Nat) (eg:∀args w,(callFunc g args).run prog w=.ok (.enter g args) w) (x:dX) (hin:∀wr,Calls prog g #[ov x] wr (dM wr (.bool true))) (b off c:Nat) (w:World) (hlt:b < w.heap.size) (hc:∀j u,(oc x)[j]? =some u->w.cell? ⟨b,off+j,none⟩=some u):
  Calls prog 269 #[.slice (some ⟨b,off,none⟩) 1 c,.int .i64 (most:Nat),.func (.func g) #[] #[]] w (dM w (.bool true)):=by
 have dV:=dH w (.cells #[.func (.func g) #[] #[]] 80);have FA:=dL (Oc x w.heap.size b off c (w.alloc (.cells #[.func (.func g) #[] #[]] 80)) (λj u hu=>(aM (a:=⟨b,off+j,none⟩) (dV.block b hlt)).trans (hc j u hu)) (aav g eg x hin _ _ (by simp) (by simp)));have eR:=dL dV;clear dV hin hc;have hm:decide ((1:Int)<=(most:Int))=true:=by simp;omega
 unfold Ga at FA;go_enter func269,ntmps269;go_wp2_with fail;refine FA.o.mono ?_;rintro e w1 ⟨rfl,hb⟩;have HB:=dJ eR hb;clear hb;go_wp2_with fail;go_ret;exact ⟨rfl,HB.o⟩
theorem Od (x:dX) (hx:FQ x) (hrc:sG x=0) (w:World):Calls prog 197 #[ov x] w (dM w (.string (bs (Pt.Cd.textL (gy x))))):=by
 have HE:=dL (qu x hx hrc);have JR:=lP x hx;have gH:Blk (w.alloc (.cells (oc x).toArray 32)) w 32 (oc x).toArray:=Blk.new w 32 (oc x).toArray;have dV:=dH w (.cells (oc x).toArray 32);obtain ⟨w1,hw1⟩:=dG (w.alloc (.cells (oc x).toArray 32));rw [<-hw1] at gH dV;obtain ⟨q,hq⟩:=dG w.heap.size;rw [<-hq] at gH;have HW:=dL (dN (x:=x) hw1);have HQ:=dL hq;have eR:=dL dV;have HLN:=dL JR;obtain ⟨c0,c1,c2,c3,c4,c5,c6,c7,c8,c9,jX⟩:=dx gH;clear gH dV hw1 hq hx hrc JR;unfold ov at HE ⊢;go_enter func197,ntmps197;go_upto_region 1 with (fail);rw [<-HW.o,<-HQ.o];go_wp2_with fail;refine (HE.o _).mono ?_;rintro e w2 ⟨rfl,dY⟩;have eA:=dJ eR dY;clear dY c0 c1 c2 c3 c4 c5 c6 c7 c8 c9 jX HE;go_wp2_with fail;refine (Pt.Cd.text_c (gy x) _ (by have:=HLN.o;omega)).mono ?_;rintro e w3 ⟨rfl,dn⟩;have eC:=dJ eA dn;clear dn;go_wp2_with fail;go_ret;exact ⟨rfl,eC.o⟩
theorem Sw (w:World):Calls prog 193 #[(),.func (.func 178) #[] #[]] w (dM w (.string (bs (Pt.Cd.numL 0)))):=by
 have kE:=Pt.Bld.fresh w;have dV:=dH w (.cells #[.pointer none,()] 261);obtain ⟨w1,hw1⟩:=dG (w.alloc (.cells #[.pointer none,()] 261));rw [<-hw1] at kE dV;obtain ⟨b0,hb0⟩:=dG w.heap.size;rw [<-hb0] at kE dV;have HW:=dL hw1;have HQ:=dL hb0;have oO:=dL kE;have HB:=dL dV;have hle:∀W:World,Below b0 w W->b0<=W.heap.size:=λW h=>by have:=h.size;omega
 clear kE hw1 dV;have hsz:w.heap.size=b0:=hb0.symm;unfold dM;rw [hsz];clear hsz hb0;go_enter func193,ntmps193;go_upto_region 2 with (fail);rw [<-HW.o,<-HQ.o];go_wp2_with fail;refine (Pt.Cd.num_c 0 _ (by decide)).mono ?_;rintro e w2 ⟨rfl,dY⟩;have oC:=dL (Pt.Bld.below oO.o dY);have eA:=dL (HB.o.trans (dY.mono (hle _ HB.o)));clear dY oO HB;go_wp2_with fail;refine (Pt.write_any b0 b0 [] (Pt.Cd.numL 0) _ oC.o (by have:=eN 0;simp;omega) (hle _ eA.o)).mono ?_;rintro e w3 ⟨rfl,j3,dn,-⟩;rw [ak] at j3;have oP:=dL j3;have eC:=dL (eA.o.trans dn);clear j3 dn oC eA;go_wp2_with fail;refine wp_loop_rounds 1 ?_;rw [rounds_succ];go_wp2_with fail;refine (Pt.string_any b0 b0 _ _ oP.o (hle _ eC.o)).mono ?_;rintro e w4 ⟨rfl,hb4⟩;have fI:=dL (eC.o.trans hb4);clear hb4;go_wp2_with fail;go_ret;exact ⟨rfl,fI.o⟩
theorem Sy (x:Int) (hx:oS x) (b off c:Nat) (w:World) (hlt:b < w.heap.size) (hc:w.cell? (Qc b off)=x):
  Calls prog 193 #[.slice (some ⟨b,off,none⟩) 1 c,.func (.func 178) #[] #[]] w (dM w (.string (bs (Pt.Cd.numL 1++Pt.Cd.numL x)))):=by
 have kE:=Pt.Bld.fresh w;have dV:=dH w (.cells #[.pointer none,()] 261);obtain ⟨w1,hw1⟩:=dG (w.alloc (.cells #[.pointer none,()] 261));rw [<-hw1] at kE dV;obtain ⟨b0,hb0⟩:=dG w.heap.size;rw [<-hb0] at kE dV;have HW:=dL hw1;have HQ:=dL hb0;have oO:=dL kE;have HB:=dL dV;have hle:∀W:World,Below b0 w W->b0<=W.heap.size:=λW h=>by have:=h.size;omega
 clear kE hw1 dV;rw [hb0.symm] at hlt;have hsz:w.heap.size=b0:=hb0.symm;unfold dM;rw [hsz];clear hsz hb0;have HC:=dL hc;clear hc;go_enter func193,ntmps193;go_upto_region 2 with (fail);rw [<-HW.o,<-HQ.o];go_wp2_with fail;refine (Pt.Cd.num_c 1 _ (by decide)).mono ?_;rintro e w2 ⟨rfl,dY⟩;have oC:=dL (Pt.Bld.below oO.o dY);have eA:=dL (HB.o.trans (dY.mono (hle _ HB.o)));clear dY oO HB;go_wp2_with fail;refine (Pt.write_any b0 b0 [] (Pt.Cd.numL 1) _ oC.o (by have:=eN 1;simp;omega) (hle _ eA.o)).mono ?_;rintro e w3 ⟨rfl,j3,dn,-⟩;rw [ak] at j3;have oP:=dL j3;have eC:=dL (eA.o.trans dn);clear j3 dn oC eA;go_wp2_with fail;refine wp_loop_rounds 2 ?_;rw [rounds_succ];have c0:=(aM (a:=⟨b,off,none⟩) (eC.o.block b hlt)).trans HC.o;have vT:=oP;have fk:=eC;clear oP eC;go_wp2_with fail;refine (Pt.Cd.num_c x _ hx).mono ?_;rintro e w6 ⟨rfl,jr⟩;have zY:=dL (Pt.Bld.below vT.o jr);have jt:=dL (fk.o.trans (jr.mono (hle _ fk.o)));clear jr vT fk c0;go_wp2_with fail;refine (Pt.write_any b0 b0 (Pt.Cd.numL 1) (Pt.Cd.numL x) _ zY.o (by have:=eN 1;have:=eN x;simp;omega) (hle _ jt.o)).mono ?_;rintro e w7 ⟨rfl,FK,lq,-⟩;have Qd:=dL FK;have lZ:=dL (jt.o.trans lq);clear FK lq zY jt;go_wp2_with fail;rw [rounds_succ];go_wp2_with fail;refine (Pt.string_any b0 b0 _ _ Qd.o (hle _ lZ.o)).mono ?_;rintro e w8 ⟨rfl,uk⟩;have rD:=dL (lZ.o.trans uk);clear uk;go_wp2_with fail;go_ret;exact ⟨rfl,rD.o⟩
theorem Sz (w:World):Calls prog 194 #[(),.func (.func 195) #[] #[]] w (dM w (.string (bs (Pt.Cd.numL 0)))):=by
 have kE:=Pt.Bld.fresh w;have dV:=dH w (.cells #[.pointer none,()] 261);obtain ⟨w1,hw1⟩:=dG (w.alloc (.cells #[.pointer none,()] 261));rw [<-hw1] at kE dV;obtain ⟨b0,hb0⟩:=dG w.heap.size;rw [<-hb0] at kE dV;have HW:=dL hw1;have HQ:=dL hb0;have oO:=dL kE;have HB:=dL dV;have hle:∀W:World,Below b0 w W->b0<=W.heap.size:=λW h=>by have:=h.size;omega
 clear kE hw1 dV;have hsz:w.heap.size=b0:=hb0.symm;unfold dM;rw [hsz];clear hsz hb0;go_enter func194,ntmps194;go_upto_region 2 with (fail);rw [<-HW.o,<-HQ.o];go_wp2_with fail;refine (Pt.Cd.num_c 0 _ (by decide)).mono ?_;rintro e w2 ⟨rfl,dY⟩;have oC:=dL (Pt.Bld.below oO.o dY);have eA:=dL (HB.o.trans (dY.mono (hle _ HB.o)));clear dY oO HB;go_wp2_with fail;refine (Pt.write_any b0 b0 [] (Pt.Cd.numL 0) _ oC.o (by have:=eN 0;simp;omega) (hle _ eA.o)).mono ?_;rintro e w3 ⟨rfl,j3,dn,-⟩;rw [ak] at j3;have oP:=dL j3;have eC:=dL (eA.o.trans dn);clear j3 dn oC eA;go_wp2_with fail;refine wp_loop_rounds 1 ?_;rw [rounds_succ];go_wp2_with fail;refine (Pt.string_any b0 b0 _ _ oP.o (hle _ eC.o)).mono ?_;rintro e w4 ⟨rfl,hb4⟩;have fI:=dL (eC.o.trans hb4);clear hb4;go_wp2_with fail;go_ret;exact ⟨rfl,fI.o⟩
theorem T0 (x:List UInt8) (hx:x.length<=1000000) (b off c:Nat) (w:World) (hlt:b < w.heap.size) (hc:w.cell? (Qc b off)=x):
  Calls prog 194 #[.slice (some ⟨b,off,none⟩) 1 c,.func (.func 195) #[] #[]] w (dM w (.string (bs (Pt.Cd.numL 1++Pt.Cd.textL x)))):=by
 have kE:=Pt.Bld.fresh w;have dV:=dH w (.cells #[.pointer none,()] 261);obtain ⟨w1,hw1⟩:=dG (w.alloc (.cells #[.pointer none,()] 261));rw [<-hw1] at kE dV;obtain ⟨b0,hb0⟩:=dG w.heap.size;rw [<-hb0] at kE dV;have HW:=dL hw1;have HQ:=dL hb0;have oO:=dL kE;have HB:=dL dV;have hle:∀W:World,Below b0 w W->b0<=W.heap.size:=λW h=>by have:=h.size;omega
 clear kE hw1 dV;rw [hb0.symm] at hlt;have hsz:w.heap.size=b0:=hb0.symm;unfold dM;rw [hsz];clear hsz hb0;have HC:=dL hc;clear hc;go_enter func194,ntmps194;go_upto_region 2 with (fail);rw [<-HW.o,<-HQ.o];go_wp2_with fail;refine (Pt.Cd.num_c 1 _ (by decide)).mono ?_;rintro e w2 ⟨rfl,dY⟩;have oC:=dL (Pt.Bld.below oO.o dY);have eA:=dL (HB.o.trans (dY.mono (hle _ HB.o)));clear dY oO HB;go_wp2_with fail;refine (Pt.write_any b0 b0 [] (Pt.Cd.numL 1) _ oC.o (by have:=eN 1;simp;omega) (hle _ eA.o)).mono ?_;rintro e w3 ⟨rfl,j3,dn,-⟩;rw [ak] at j3;have oP:=dL j3;have eC:=dL (eA.o.trans dn);clear j3 dn oC eA;go_wp2_with fail;refine wp_loop_rounds 2 ?_;rw [rounds_succ];have c0:=(aM (a:=⟨b,off,none⟩) (eC.o.block b hlt)).trans HC.o;have vT:=oP;have fk:=eC;clear oP eC;go_wp2_with fail;refine (Pt.Cd.text_c x _ (by omega)).mono ?_;rintro e w6 ⟨rfl,jr⟩;have zY:=dL (Pt.Bld.below vT.o jr);have jt:=dL (fk.o.trans (jr.mono (hle _ fk.o)));clear jr vT fk c0;go_wp2_with fail;refine (Pt.write_any b0 b0 (Pt.Cd.numL 1) (Pt.Cd.textL x) _ zY.o (by have:=eN 1;have:=gC x;simp;omega) (hle _ jt.o)).mono ?_;rintro e w7 ⟨rfl,FK,lq,-⟩;have Qd:=dL FK;have lZ:=dL (jt.o.trans lq);clear FK lq zY jt;go_wp2_with fail;rw [rounds_succ];go_wp2_with fail;refine (Pt.string_any b0 b0 _ _ Qd.o (hle _ lZ.o)).mono ?_;rintro e w8 ⟨rfl,uk⟩;have rD:=dL (lZ.o.trans uk);clear uk;go_wp2_with fail;go_ret;exact ⟨rfl,rD.o⟩
theorem T3 (w:World):Calls prog 196 #[(),.func (.func 197) #[] #[]] w (dM w (.string (bs (Pt.Cd.numL 0)))):=by
 have kE:=Pt.Bld.fresh w;have dV:=dH w (.cells #[.pointer none,()] 261);obtain ⟨w1,hw1⟩:=dG (w.alloc (.cells #[.pointer none,()] 261));rw [<-hw1] at kE dV;obtain ⟨b0,hb0⟩:=dG w.heap.size;rw [<-hb0] at kE dV;have HW:=dL hw1;have HQ:=dL hb0;have oO:=dL kE;have HB:=dL dV;have hle:∀W:World,Below b0 w W->b0<=W.heap.size:=λW h=>by have:=h.size;omega
 clear kE hw1 dV;have hsz:w.heap.size=b0:=hb0.symm;unfold dM;rw [hsz];clear hsz hb0;go_enter func196,ntmps196;go_upto_region 2 with (fail);rw [<-HW.o,<-HQ.o];go_wp2_with fail;refine (Pt.Cd.num_c 0 _ (by decide)).mono ?_;rintro e w2 ⟨rfl,dY⟩;have oC:=dL (Pt.Bld.below oO.o dY);have eA:=dL (HB.o.trans (dY.mono (hle _ HB.o)));clear dY oO HB;go_wp2_with fail;refine (Pt.write_any b0 b0 [] (Pt.Cd.numL 0) _ oC.o (by have:=eN 0;simp;omega) (hle _ eA.o)).mono ?_;rintro e w3 ⟨rfl,j3,dn,-⟩;rw [ak] at j3;have oP:=dL j3;have eC:=dL (eA.o.trans dn);clear j3 dn oC eA;go_wp2_with fail;refine wp_loop_rounds 1 ?_;rw [rounds_succ];go_wp2_with fail;refine (Pt.string_any b0 b0 _ _ oP.o (hle _ eC.o)).mono ?_;rintro e w4 ⟨rfl,hb4⟩;have fI:=dL (eC.o.trans hb4);clear hb4;go_wp2_with fail;go_ret;exact ⟨rfl,fI.o⟩
theorem T6 (x:dX) (hx:FQ x) (hrc:sG x=0) (b off c:Nat) (w:World) (hlt:b < w.heap.size) (hc:∀j u,(oc x)[j]? =some u->w.cell? ⟨b,off+j,none⟩=some u):
  Calls prog 196 #[.slice (some ⟨b,off,none⟩) 1 c,.func (.func 197) #[] #[]] w (dM w (.string (bs (Pt.Cd.numL 1++Pt.Cd.textL (gy x))))):=by
 have kE:=Pt.Bld.fresh w;have dV:=dH w (.cells #[.pointer none,()] 261);obtain ⟨w1,hw1⟩:=dG (w.alloc (.cells #[.pointer none,()] 261));rw [<-hw1] at kE dV;obtain ⟨b0,hb0⟩:=dG w.heap.size;rw [<-hb0] at kE dV;have HW:=dL hw1;have HQ:=dL hb0;have oO:=dL kE;have HB:=dL dV;have hle:∀W:World,Below b0 w W->b0<=W.heap.size:=λW h=>by have:=h.size;omega
 clear kE hw1 dV;rw [hb0.symm] at hlt;have hsz:w.heap.size=b0:=hb0.symm;unfold dM;rw [hsz];clear hsz hb0;have HC:=dL hc;clear hc;have HL:=dL (Od x hx hrc);have HLN:=dL (lP x hx);unfold ov at HL;clear hx hrc;go_enter func196,ntmps196;go_upto_region 2 with (fail);rw [<-HW.o,<-HQ.o];go_wp2_with fail;refine (Pt.Cd.num_c 1 _ (by decide)).mono ?_;rintro e w2 ⟨rfl,dY⟩;have oC:=dL (Pt.Bld.below oO.o dY);have eA:=dL (HB.o.trans (dY.mono (hle _ HB.o)));clear dY oO HB;go_wp2_with fail;refine (Pt.write_any b0 b0 [] (Pt.Cd.numL 1) _ oC.o (by have:=eN 1;simp;omega) (hle _ eA.o)).mono ?_;rintro e w3 ⟨rfl,j3,dn,-⟩;rw [ak] at j3;have oP:=dL j3;have eC:=dL (eA.o.trans dn);clear j3 dn oC eA;go_wp2_with fail;refine wp_loop_rounds 2 ?_;rw [rounds_succ];have hc:∀j u,(oc x)[j]? =some u->w3.cell? ⟨b,off+j,none⟩=some u:=λj u hu=>(aM (a:=⟨b,off+j,none⟩) (eC.o.block b hlt)).trans (HC.o j u hu)
 have e0:=hc 0 _ rfl;have e1:=hc 1 _ rfl;have e2:=hc 2 _ rfl;have e3:=hc 3 _ rfl;have e4:=hc 4 _ rfl;have e5:=hc 5 _ rfl;have e6:=hc 6 _ rfl;have e7:=hc 7 _ rfl;have e8:=hc 8 _ rfl;have e9:=hc 9 _ rfl;have wD:=hc 10 _ rfl;simp only [bZ] at e0;clear hc HC;have vU:Blk (w3.alloc (.cells (oc x).toArray 32)) w3 32 (oc x).toArray:=Blk.new w3 32 (oc x).toArray;have ef:=dH w3 (.cells (oc x).toArray 32);obtain ⟨w5,iB⟩:=dG (w3.alloc (.cells (oc x).toArray 32));rw [<-iB] at vU ef;have zX:=dL (dN (x:=x) iB);obtain ⟨q,hq⟩:=dG w3.heap.size;rw [<-hq] at vU;have oE:=dL hq;have Ey:=dL vU;have vT:=dL (Pt.Bld.below oP.o ef);have fk:=dL (eC.o.trans (ef.mono (hle _ eC.o)));clear vU ef iB hq oP eC;go_upto_region 6 with (fail);rw [<-zX.o,<-oE.o];clear e0 e1 e2 e3 e4 e5 e6 e7 e8 e9 wD;obtain ⟨c0,c1,c2,c3,c4,c5,c6,c7,c8,c9,jX⟩:=dx Ey.o;go_wp2_with fail;refine (HL.o _).mono ?_;rintro e w6 ⟨rfl,jr⟩;have zY:=dL (Pt.Bld.below vT.o jr);have jt:=dL (fk.o.trans (jr.mono (hle _ fk.o)));clear jr vT fk c0 c1 c2 c3 c4 c5 c6 c7 c8 c9 jX;go_wp2_with fail;refine (Pt.write_any b0 b0 (Pt.Cd.numL 1) (Pt.Cd.textL (gy x)) _ zY.o (by have:=eN 1;have:=gC (gy x);have:=HLN.o;simp;omega) (hle _ jt.o)).mono ?_;rintro e w7 ⟨rfl,FK,lq,-⟩;have Qd:=dL FK;have lZ:=dL (jt.o.trans lq);clear FK lq zY jt;go_wp2_with fail;rw [rounds_succ];go_wp2_with fail;refine (Pt.string_any b0 b0 _ _ Qd.o (hle _ lZ.o)).mono ?_;rintro e w8 ⟨rfl,uk⟩;have rD:=dL (lZ.o.trans uk);clear uk;go_wp2_with fail;go_ret;exact ⟨rfl,rD.o⟩
def en (w:World) (f:Nat) (args:Array Value) (v:Value):Prop:=∀w',Below w w w'->Calls prog f args w' λe w2=>e=.returned v/\Below w'.heap.size w' w2
variable {v:Value}
theorem en.later {f:Nat} {args:Array Value} (h:en w f args v) (hb:Below w w w'):en w' f args v:=λw2 dY=>h w2 (hb.trans (dY.mono hb.size))
structure J3 (w:World) (q:Nat) (A1 A2:Option Addr) (n1 c1 n2 c2:Nat) (W:World):Prop where
 k:Blk W q 212 #[yh,Qq A1 n1 c1,Qq A2 n2 c2,(),()]
 b:Below w w W
theorem J3.cells {A1 A2:Option Addr} {c1 c2:Nat} (h:J3 w q A1 A2 n1 c1 n2 c2 W):W.cell? (Qc q 1)=Qq A1 n1 c1/\W.cell? (Qc q 2)=Qq A2 n2 c2:=⟨h.k.cell 1,h.k.cell 2⟩
theorem J3.later {A1 A2:Option Addr} {c1 c2:Nat} {W':World} (h:J3 w q A1 A2 n1 c1 n2 c2 W) (hb:Below W W W'):J3 w q A1 A2 n1 c1 n2 c2 W':=⟨h.k.below hb h.k.lt,h.b.trans (hb.mono h.b.size)⟩
theorem tV (kd:Int) (A1 A2 A3 A4:Option Addr) (n1 c1 n2 c2 n3 c3 n4 c4:Nat) (hsh:(kd=1/\n3=0/\n4=0)\/(kd=2/\n1=0/\n2=0/\n4=0)\/(kd=3/\n1=0/\n2=0/\n3=0)) (w:World) (h1:en w 265 #[Qq A1 n1 c1,(15:Int),.func (.func 266) #[] #[]] (.bool true)) (h2:en w 267 #[Qq A2 n2 c2,(16:Int),.func (.func 268) #[] #[]] (.bool true)) (h3:en w 269 #[Qq A3 n3 c3,(20:Int),.func (.func 270) #[] #[]] (.bool true)) (h4:en w 267 #[Qq A4 n4 c4,(16:Int),.func (.func 271) #[] #[]] (.bool true)):Calls prog 192 #[.agg #[kd,Qq A1 n1 c1,Qq A2 n2 c2,Qq A3 n3 c3,Qq A4 n4 c4]] w (dM w (.bool true)):=by
 have Ce:=Blk.new w 212 #[kd,Qq A1 n1 c1,Qq A2 n2 c2,Qq A3 n3 c3,Qq A4 n4 c4];have dV:=dH w (.cells #[kd,Qq A1 n1 c1,Qq A2 n2 c2,Qq A3 n3 c3,Qq A4 n4 c4] 212);obtain ⟨w1,hw1⟩:=dG (w.alloc (.cells #[kd,Qq A1 n1 c1,Qq A2 n2 c2,Qq A3 n3 c3,Qq A4 n4 c4] 212));rw [<-hw1] at Ce dV;obtain ⟨q,hq⟩:=dG w.heap.size;rw [<-hq] at Ce;have HW:=dL hw1;have HQ:=dL hq;have fG:=dL Ce;have eR:=dL dV;clear Ce dV hw1 hq;have H1:=dL h1;clear h1;have H2:=dL h2;clear h2;have H3:=dL h3;clear h3;have H4:=dL h4;clear h4;rcases hsh with ⟨rfl,rfl,rfl⟩| ⟨rfl,rfl,rfl,rfl⟩| ⟨rfl,rfl,rfl,rfl⟩
 all_goals
  go_enter func192,ntmps192;go_upto_region 1 with (fail);rw [<-HW.o,<-HQ.o];have a0:=fG.o.cell 0;have a1:=fG.o.cell 1;have a2:=fG.o.cell 2;have a3:=fG.o.cell 3;have a4:=fG.o.cell 4;simp at a0 a1 a2 a3 a4;go_wp2_with fail;refine (H1.o _ eR.o).mono ?_;rintro e w2 ⟨rfl,hb⟩;have jT:=dL (fG.o.below hb fG.o.lt);have eA:=dJ eR hb;clear hb a0 a1 a2 a3 a4 fG;have fG:=jT;clear jT;have a0:=fG.o.cell 0;have a1:=fG.o.cell 1;have a2:=fG.o.cell 2;have a3:=fG.o.cell 3;have a4:=fG.o.cell 4;simp at a0 a1 a2 a3 a4;go_wp2_with fail;refine (H2.o _ eA.o).mono ?_;rintro e w3 ⟨rfl,hb⟩;have jT:=dL (fG.o.below hb fG.o.lt);have eC:=dJ eA hb;clear hb a0 a1 a2 a3 a4 fG;have fG:=jT;clear jT;have a0:=fG.o.cell 0;have a1:=fG.o.cell 1;have a2:=fG.o.cell 2;have a3:=fG.o.cell 3;have a4:=fG.o.cell 4;simp at a0 a1 a2 a3 a4;go_wp2_with fail;refine (H3.o _ eC.o).mono ?_;rintro e w4 ⟨rfl,hb⟩;have jT:=dL (fG.o.below hb fG.o.lt);have fI:=dJ eC hb;clear hb a0 a1 a2 a3 a4 fG;have fG:=jT;clear jT;have a0:=fG.o.cell 0;have a1:=fG.o.cell 1;have a2:=fG.o.cell 2;have a3:=fG.o.cell 3;have a4:=fG.o.cell 4;simp at a0 a1 a2 a3 a4;go_wp2_with fail;refine (H4.o _ fI.o).mono ?_;rintro e w5 ⟨rfl,hb⟩;have jT:=dL (fG.o.below hb fG.o.lt);have fk:=dJ fI hb;clear hb a0 a1 a2 a3 a4 fG;have fG:=jT;clear jT;have a0:=fG.o.cell 0;have a1:=fG.o.cell 1;have a2:=fG.o.cell 2;have a3:=fG.o.cell 3;have a4:=fG.o.cell 4;simp at a0 a1 a2 a3 a4;go_wp2_with fail;go_ret;exact ⟨rfl,fk.o⟩
theorem right_1 (A1 A2:Option Addr) (n1 c1 n2 c2:Nat) (w:World) (h1:en w 265 #[Qq A1 n1 c1,(15:Int),.func (.func 266) #[] #[]] (.bool true)) (h2:en w 267 #[Qq A2 n2 c2,(16:Int),.func (.func 268) #[] #[]] (.bool true)):Calls prog 192 #[.agg #[yh,Qq A1 n1 c1,Qq A2 n2 c2,(),()]] w (dM w (.bool true)):=
 tV 1 A1 A2 none none n1 c1 n2 c2 0 0 0 0 (.inl ⟨rfl,rfl,rfl⟩) w h1 h2 (λw1 _=>Gc 20 270 w1) (λw1 _=>tU 16 271 w1)
theorem Oe (A1 A2:Option Addr) (n1 c1 n2 c2:Nat) (a1 a2:List UInt8) (w:World) (h1:en w 265 #[Qq A1 n1 c1,(15:Int),.func (.func 266) #[] #[]] (.bool true)) (h2:en w 267 #[Qq A2 n2 c2,(16:Int),.func (.func 268) #[] #[]] (.bool true)) (l1:en w 193 #[Qq A1 n1 c1,.func (.func 178) #[] #[]] (.string (bs a1))) (l2:en w 194 #[Qq A2 n2 c2,.func (.func 195) #[] #[]] (.string (bs a2))) (s1:a1.length<=1000000) (s2:a2.length<=1000000):Calls prog 125 #[.agg #[yh,Qq A1 n1 c1,Qq A2 n2 c2,(),()]] w (dM w (.tuple #[.string (bs ((Pt.Cd.numL 1++a1)++a2)),qn])):=by
 have Ce:=Blk.new w 212 #[yh,Qq A1 n1 c1,Qq A2 n2 c2,(),()];have dV:=dH w (.cells #[yh,Qq A1 n1 c1,Qq A2 n2 c2,(),()] 212);obtain ⟨w1,hw1⟩:=dG (w.alloc (.cells #[yh,Qq A1 n1 c1,Qq A2 n2 c2,(),()] 212));rw [<-hw1] at Ce dV;obtain ⟨q,hq⟩:=dG w.heap.size;rw [<-hq] at Ce;have HW:=dL hw1;have HQ:=dL hq;have fG:=dL Ce;have eR:=dL dV;clear Ce dV hw1 hq;have L1:=dL l1;clear l1;have L2:=dL l2;clear l2;have HR:=dL (right_1 A1 A2 n1 c1 n2 c2 w1 (h1.later eR.o) (h2.later eR.o));clear h1;clear h2;have hn9:=eN 1;have k1:¬ 9223372036854775807 < (Pt.Cd.numL 1).length+a1.length:=by omega
 have k2:¬ 9223372036854775807 < (Pt.Cd.numL 1).length+a1.length+a2.length:=by omega
 have K1:=dL k1;have K2:=dL k2;clear k2;clear k1 hn9;go_enter func125,ntmps125;go_upto_region 1 with (fail);rw [<-HW.o,<-HQ.o];have b0:=fG.o.cell 0;have b1:=fG.o.cell 1;have b2:=fG.o.cell 2;have b3:=fG.o.cell 3;have b4:=fG.o.cell 4;simp at b0 b1 b2 b3 b4;go_wp2_with fail;refine HR.o.mono ?_;rintro e w2 ⟨rfl,hb⟩;have jT:=dL (fG.o.below hb fG.o.lt);have eA:=dJ eR hb;clear hb b0 b1 b2 b3 b4 fG;have fG:=jT;clear jT;have b0:=fG.o.cell 0;have b1:=fG.o.cell 1;have b2:=fG.o.cell 2;have b3:=fG.o.cell 3;have b4:=fG.o.cell 4;simp at b0 b1 b2 b3 b4;go_wp2_with fail;refine (Pt.Cd.num_c 1 _ (by decide)).mono ?_;rintro e w3 ⟨rfl,hb⟩;have jT:=dL (fG.o.below hb fG.o.lt);have eC:=dJ eA hb;clear hb b0 b1 b2 b3 b4 fG;have fG:=jT;clear jT;have b0:=fG.o.cell 0;have b1:=fG.o.cell 1;have b2:=fG.o.cell 2;have b3:=fG.o.cell 3;have b4:=fG.o.cell 4;simp at b0 b1 b2 b3 b4;go_wp2_with fail;have k1:=K1.o;have k2:=K2.o;have uB:dK (J3 w q A1 A2 n1 c1 n2 c2 w3.drew):=dL ⟨fG.o,eC.o.drew⟩;clear fG b0 b1 b2 b3 b4;go_region_held3 (λw'=>w'.cell? (Qc q 1)=Qq A1 n1 c1/\w'.cell? (Qc q 2)=Qq A2 n2 c2)
  (with_reducible first|exact J3.cells zj.o|exact J3.cells r9.o|exact J3.cells sP.o|exact J3.cells uB.o)
  (first
   |(go_at_call 193;refine (L1.o _ (by with_reducible first|exact uB.o.b|exact r9.o.b)).mono ?_;rintro e w4 ⟨rfl,hb⟩;have sP:dK (J3 w q A1 A2 n1 c1 n2 c2 w4):=dL (J3.later (by with_reducible first|exact uB.o|exact r9.o) hb);clear hb)
   |(go_at_call 194;refine (L2.o _ (by with_reducible first|exact uB.o.b|exact sP.o.b)).mono ?_;rintro e w5 ⟨rfl,hb⟩;have r9:dK (J3 w q A1 A2 n1 c1 n2 c2 w5):=dL (J3.later (by with_reducible first|exact uB.o|exact sP.o) hb);clear hb))
 all_goals
  go_wp2_with fail;go_ret2;first|exact ⟨rfl,r9.o.b⟩|exact ⟨rfl,sP.o.b⟩
theorem J4 (A3:Option Addr) (n3 c3:Nat) (w:World) (h3:en w 269 #[Qq A3 n3 c3,(20:Int),.func (.func 270) #[] #[]] (.bool true)):Calls prog 192 #[.agg #[(2:Int),(),(),Qq A3 n3 c3,()]] w (dM w (.bool true)):=
 tV 2 none none A3 none 0 0 0 0 n3 c3 0 0 (.inr (.inl ⟨rfl,rfl,rfl,rfl⟩)) w (λw1 _=>Gb 15 266 w1) (λw1 _=>tU 16 268 w1) h3 (λw1 _=>tU 16 271 w1)
theorem Of (A3:Option Addr) (n3 c3:Nat) (a1:List UInt8) (w:World) (h3:en w 269 #[Qq A3 n3 c3,(20:Int),.func (.func 270) #[] #[]] (.bool true)) (l1:en w 196 #[Qq A3 n3 c3,.func (.func 197) #[] #[]] (.string (bs a1))) (s1:a1.length<=1000000):Calls prog 125 #[.agg #[(2:Int),(),(),Qq A3 n3 c3,()]] w (dM w (.tuple #[.string (bs (Pt.Cd.numL 2++a1)),qn])):=by
 have Ce:=Blk.new w 212 #[(2:Int),(),(),Qq A3 n3 c3,()];have dV:=dH w (.cells #[(2:Int),(),(),Qq A3 n3 c3,()] 212);obtain ⟨w1,hw1⟩:=dG (w.alloc (.cells #[(2:Int),(),(),Qq A3 n3 c3,()] 212));rw [<-hw1] at Ce dV;obtain ⟨q,hq⟩:=dG w.heap.size;rw [<-hq] at Ce;have HW:=dL hw1;have HQ:=dL hq;have fG:=dL Ce;have eR:=dL dV;clear Ce dV hw1 hq;have L1:=dL l1;clear l1;have HR:=dL (J4 A3 n3 c3 w1 (h3.later eR.o));clear h3;have hn9:=eN 2;have k1:¬ 9223372036854775807 < (Pt.Cd.numL 2).length+a1.length:=by omega
 have K1:=dL k1;clear k1 hn9;go_enter func125,ntmps125;go_upto_region 1 with (fail);rw [<-HW.o,<-HQ.o];have b0:=fG.o.cell 0;have b1:=fG.o.cell 1;have b2:=fG.o.cell 2;have b3:=fG.o.cell 3;have b4:=fG.o.cell 4;simp at b0 b1 b2 b3 b4;go_wp2_with fail;refine HR.o.mono ?_;rintro e w2 ⟨rfl,hb⟩;have jT:=dL (fG.o.below hb fG.o.lt);have eA:=dJ eR hb;clear hb b0 b1 b2 b3 b4 fG;have fG:=jT;clear jT;have b0:=fG.o.cell 0;have b1:=fG.o.cell 1;have b2:=fG.o.cell 2;have b3:=fG.o.cell 3;have b4:=fG.o.cell 4;simp at b0 b1 b2 b3 b4;go_wp2_with fail;refine (Pt.Cd.num_c 2 _ (by decide)).mono ?_;rintro e w3 ⟨rfl,hb⟩;have jT:=dL (fG.o.below hb fG.o.lt);have eC:=dJ eA hb;clear hb b0 b1 b2 b3 b4 fG;have fG:=jT;clear jT;have b0:=fG.o.cell 0;have b1:=fG.o.cell 1;have b2:=fG.o.cell 2;have b3:=fG.o.cell 3;have b4:=fG.o.cell 4;simp at b0 b1 b2 b3 b4;go_wp2_with fail;have k1:=K1.o;refine (L1.o _ eC.o).mono ?_;rintro e w4 ⟨rfl,hb⟩;have fI:=dJ eC hb;clear hb b0 b1 b2 b3 b4 fG;go_wp2_with fail;go_ret2;exact ⟨rfl,fI.o⟩
theorem J5 (A4:Option Addr) (n4 c4:Nat) (w:World) (h4:en w 267 #[Qq A4 n4 c4,(16:Int),.func (.func 271) #[] #[]] (.bool true)):Calls prog 192 #[.agg #[(3:Int),(),(),(),Qq A4 n4 c4]] w (dM w (.bool true)):=
 tV 3 none none none A4 0 0 0 0 0 0 n4 c4 (.inr (.inr ⟨rfl,rfl,rfl,rfl⟩)) w (λw1 _=>Gb 15 266 w1) (λw1 _=>tU 16 268 w1) (λw1 _=>Gc 20 270 w1) h4
theorem Og (A4:Option Addr) (n4 c4:Nat) (a1:List UInt8) (w:World) (h4:en w 267 #[Qq A4 n4 c4,(16:Int),.func (.func 271) #[] #[]] (.bool true)) (l1:en w 194 #[Qq A4 n4 c4,.func (.func 195) #[] #[]] (.string (bs a1))) (s1:a1.length<=1000000):Calls prog 125 #[.agg #[(3:Int),(),(),(),Qq A4 n4 c4]] w (dM w (.tuple #[.string (bs (Pt.Cd.numL 3++a1)),qn])):=by
 have Ce:=Blk.new w 212 #[(3:Int),(),(),(),Qq A4 n4 c4];have dV:=dH w (.cells #[(3:Int),(),(),(),Qq A4 n4 c4] 212);obtain ⟨w1,hw1⟩:=dG (w.alloc (.cells #[(3:Int),(),(),(),Qq A4 n4 c4] 212));rw [<-hw1] at Ce dV;obtain ⟨q,hq⟩:=dG w.heap.size;rw [<-hq] at Ce;have HW:=dL hw1;have HQ:=dL hq;have fG:=dL Ce;have eR:=dL dV;clear Ce dV hw1 hq;have L1:=dL l1;clear l1;have HR:=dL (J5 A4 n4 c4 w1 (h4.later eR.o));clear h4;have hn9:=eN 3;have k1:¬ 9223372036854775807 < (Pt.Cd.numL 3).length+a1.length:=by omega
 have K1:=dL k1;clear k1 hn9;go_enter func125,ntmps125;go_upto_region 1 with (fail);rw [<-HW.o,<-HQ.o];have b0:=fG.o.cell 0;have b1:=fG.o.cell 1;have b2:=fG.o.cell 2;have b3:=fG.o.cell 3;have b4:=fG.o.cell 4;simp at b0 b1 b2 b3 b4;go_wp2_with fail;refine HR.o.mono ?_;rintro e w2 ⟨rfl,hb⟩;have jT:=dL (fG.o.below hb fG.o.lt);have eA:=dJ eR hb;clear hb b0 b1 b2 b3 b4 fG;have fG:=jT;clear jT;have b0:=fG.o.cell 0;have b1:=fG.o.cell 1;have b2:=fG.o.cell 2;have b3:=fG.o.cell 3;have b4:=fG.o.cell 4;simp at b0 b1 b2 b3 b4;go_wp2_with fail;refine (Pt.Cd.num_c 3 _ (by decide)).mono ?_;rintro e w3 ⟨rfl,hb⟩;have jT:=dL (fG.o.below hb fG.o.lt);have eC:=dJ eA hb;clear hb b0 b1 b2 b3 b4 fG;have fG:=jT;clear jT;have b0:=fG.o.cell 0;have b1:=fG.o.cell 1;have b2:=fG.o.cell 2;have b3:=fG.o.cell 3;have b4:=fG.o.cell 4;simp at b0 b1 b2 b3 b4;go_wp2_with fail;have k1:=K1.o;refine (L1.o _ eC.o).mono ?_;rintro e w4 ⟨rfl,hb⟩;have fI:=dJ eC hb;clear hb b0 b1 b2 b3 b4 fG;go_wp2_with fail;go_ret2;exact ⟨rfl,fI.o⟩
def qw (w:World) (v:Value) (xs:List Int):Prop:=(xs=[]/\v=.slice none 0 0)\/∃b off c x,xs=[x]/\v=.slice (some ⟨b,off,none⟩) 1 c/\b < w.heap.size/\w.cell? ⟨b,off,none⟩=some (.int .i64 x)/\1<=c/\c<=9223372036854775807
def oI (w:World) (v:Value) (xs:List (List UInt8)):Prop:=(xs=[]/\v=.slice none 0 0)\/∃b off c x,xs=[x]/\v=.slice (some ⟨b,off,none⟩) 1 c/\b < w.heap.size/\w.cell? ⟨b,off,none⟩=some (.string (bs x))/\1<=c/\c<=9223372036854775807
def qx (w:World) (v:Value) (xs:List dX):Prop:=(xs=[]/\v=.slice none 0 0)\/∃b off c x,xs=[x]/\v=.slice (some ⟨b,off,none⟩) 1 c/\b < w.heap.size/\(∀j u,(oc x)[j]? =some u->w.cell? ⟨b,off+j,none⟩=some u)/\1<=c/\c<=9223372036854775807
theorem qw.later {xs:List Int} (h:qw w v xs) (hb:Below w w w'):qw w' v xs:=by
 rcases h with h| ⟨b,off,c,x,h1,h2,h3,h4,h5⟩
 ·exact .inl h
 ·exact .inr ⟨b,off,c,x,h1,h2,aN h3 hb.size,(aM (a:=⟨b,off,none⟩) (hb.block b h3)).trans h4,h5⟩
theorem oI.later (h:oI w v xs) (hb:Below w w w'):oI w' v xs:=by
 rcases h with h| ⟨b,off,c,x,h1,h2,h3,h4,h5⟩
 ·exact .inl h
 ·exact .inr ⟨b,off,c,x,h1,h2,aN h3 hb.size,(aM (a:=⟨b,off,none⟩) (hb.block b h3)).trans h4,h5⟩
theorem qx.later {xs:List dX} (h:qx w v xs) (hb:Below w w w'):qx w' v xs:=by
 rcases h with h| ⟨b,off,c,x,h1,h2,h3,h4,h5⟩
 ·exact .inl h
 ·exact .inr ⟨b,off,c,x,h1,h2,aN h3 hb.size,λj u hu=>(aM (a:=⟨b,off+j,none⟩) (hb.block b h3)).trans (h4 j u hu),h5⟩
variable {S:Nat->Prop}
theorem qw.kp {xs:List Int} (h:qw w v xs) (k:dm S w w') (hn:∀b off n c,v=.slice (some ⟨b,off,none⟩) n c->¬ S b):qw w' v xs:=by
 rcases h with h| ⟨b,off,c,x,h1,h2,h3,h4,h5⟩
 ·exact .inl h
 ·exact .inr ⟨b,off,c,x,h1,h2,aN h3 k.size,(aM (a:=⟨b,off,none⟩) (k.block b h3 (hn _ _ _ _ h2))).trans h4,h5⟩
theorem oI.kp (h:oI w v xs) (k:dm S w w') (hn:∀b off n c,v=.slice (some ⟨b,off,none⟩) n c->¬ S b):oI w' v xs:=by
 rcases h with h| ⟨b,off,c,x,h1,h2,h3,h4,h5⟩
 ·exact .inl h
 ·exact .inr ⟨b,off,c,x,h1,h2,aN h3 k.size,(aM (a:=⟨b,off,none⟩) (k.block b h3 (hn _ _ _ _ h2))).trans h4,h5⟩
theorem qx.kp {xs:List dX} (h:qx w v xs) (k:dm S w w') (hn:∀b off n c,v=.slice (some ⟨b,off,none⟩) n c->¬ S b):qx w' v xs:=by
 rcases h with h| ⟨b,off,c,x,h1,h2,h3,h4,h5⟩
 ·exact .inl h
 ·exact .inr ⟨b,off,c,x,h1,h2,aN h3 k.size,λj u hu=>(aM (a:=⟨b,off+j,none⟩) (k.block b h3 (hn _ _ _ _ h2))).trans (h4 j u hu),h5⟩
theorem qw.form {xs:List Int} (h:qw w v xs):∃A c,v=.slice A xs.length c:=by
 rcases h with ⟨rfl,rfl⟩| ⟨b,off,c,x,rfl,rfl,_⟩
 ·exact ⟨none,0,rfl⟩
 ·exact ⟨_,c,rfl⟩
theorem oI.form (h:oI w v xs):∃A c,v=.slice A xs.length c:=by
 rcases h with ⟨rfl,rfl⟩| ⟨b,off,c,x,rfl,rfl,_⟩
 ·exact ⟨none,0,rfl⟩
 ·exact ⟨_,c,rfl⟩
theorem qx.form {xs:List dX} (h:qx w v xs):∃A c,v=.slice A xs.length c:=by
 rcases h with ⟨rfl,rfl⟩| ⟨b,off,c,x,rfl,rfl,_⟩
 ·exact ⟨none,0,rfl⟩
 ·exact ⟨_,c,rfl⟩
theorem pF {α:Type} {xs:List α} (h:xs.length<=1):xs=[]\/∃x,xs=[x]:=by
 cases xs with
 |nil=>exact .inl rfl
 |cons x t=>
  cases t with
  |nil=>exact .inr ⟨x,rfl⟩
  |cons y t=>simp at h
theorem jQ {size:Nat} {xs:List Value} (h:dQ w B size v n xs) (hn:n=1):∃g c,v=.slice (some ⟨g,0,none⟩) 1 c/\g < w.heap.size/\B<=g/\(∀j u,xs[j]? =some u->w.cell? ⟨g,0+j,none⟩=some u)/\1<=c/\c<=9223372036854775807:=by
 subst hn;obtain ⟨g,cap,rfl,hb,hlt,hnc,hcm,hc,hf⟩:=h.form (by decide);have acf:cap<=9223372036854775807:=by unfold maxLen at hcm;omega
 exact ⟨g,cap,rfl,hlt,hb,λj u hu=>by rw [aV];exact hc j u hu,hnc,acf⟩
theorem fm.ls (h:fm w B v xs) (hn:sI v xs) (h1:xs.length<=1):oI w v xs:=by
 match xs,h1 with
 | [],_=>exact .inl ⟨rfl,hn rfl⟩
 | [x],_=>
  obtain ⟨g,c,rfl,hlt,-,hc,hk⟩:=jQ h rfl;exact .inr ⟨g,0,c,x,rfl,rfl,hlt,hc 0 _ rfl,hk⟩
theorem gU.ls {xs:List dX} (h:gU w B v xs) (hn:sI v xs) (h1:xs.length<=1):qx w v xs:=by
 rcases pF h1 with rfl| ⟨x,rfl⟩
 ·exact .inl ⟨rfl,hn rfl⟩
 ·obtain ⟨g,c,rfl,hlt,-,hc,hk⟩:=jQ h rfl
  refine .inr ⟨g,0,c,x,rfl,rfl,hlt,λj u hu=>hc j u ?_,hk⟩;simpa [iw] using hu
theorem adX {A:Option Addr} {c:Nat} {x:Int} (h:Sl w 1 uv A n c [x]):qw w (.slice A n c) [x]:=by
 obtain ⟨b,off,rfl,rfl,h1,h2,h3,h4⟩:=aae h;exact .inr ⟨b,off,c,x,rfl,rfl,h3,h4,h1,h2⟩
def uT (xs:List Int):Prop:=∀x∈xs,0<=x/\x<=1099511627776
def nw (xs:List (List UInt8)):Prop:=∀x∈xs,x.length=32
def Aj (xs:List dX):Prop:=∀x∈xs,FQ x/\sG x=0
def Oh (xs:List (List UInt8)):Prop:=∀x∈xs,1<=x.length/\x.length<=256
def lS (xs:List Int):List UInt8:=Pt.Cd.numL xs.length++xs.flatMap Pt.Cd.numL
def kC (xs:List (List UInt8)):List UInt8:=Pt.Cd.numL xs.length++xs.flatMap Pt.Cd.textL
def oJ (xs:List dX):List UInt8:=Pt.Cd.numL xs.length++xs.flatMap λx=>Pt.Cd.textL (gy x)
theorem LF (args:Array Value) (w:World):(callFunc 266 args).run prog w=.ok (.enter 266 args) w:=enters_of func266 (by kernel_rfl) rfl args w
theorem LG (args:Array Value) (w:World):(callFunc 268 args).run prog w=.ok (.enter 268 args) w:=enters_of func268 (by kernel_rfl) rfl args w
theorem LH (args:Array Value) (w:World):(callFunc 270 args).run prog w=.ok (.enter 270 args) w:=enters_of func270 (by kernel_rfl) rfl args w
theorem LJ (args:Array Value) (w:World):(callFunc 271 args).run prog w=.ok (.enter 271 args) w:=enters_of func271 (by kernel_rfl) rfl args w
theorem aaw (x:Int) (h1:0<=x) (h2:x<=1099511627776) (w:World):Calls prog 266 #[x] w (dM w (.bool true)):=by
 have d1:decide (0<=x)=true:=by simp [h1]
 have d2:decide (x<=1099511627776)=true:=by simp [h2]
 clear h1 h2;go_enter func266,ntmps266;go_wp2_with fail;go_ret;exact ⟨rfl,aC _ _⟩
theorem aax (x:List UInt8) (h1:x.length=32) (w:World):Calls prog 268 #[x] w (dM w (.bool true)):=by
 have d1:((x.length:Int) ==32)=true:=by simp [h1]
 clear h1;go_enter func268,ntmps268;go_wp2_with fail;go_ret;exact ⟨rfl,aC _ _⟩
theorem aay (x:List UInt8) (h1:1<=x.length) (h2:x.length<=256) (w:World):Calls prog 271 #[x] w (dM w (.bool true)):=by
 have d0:(x ==[])=false:=by
  rw [beq_eq_false_iff_ne];exact λe=>by rw [e] at h1;simp at h1
 have d1:decide ((x.length:Int)<=256)=true:=by simp;omega
 clear h1 h2;go_enter func271,ntmps271;go_wp2_with fail;go_ret;exact ⟨rfl,aC _ _⟩
theorem aaz (x:dX) (hx:FQ x) (hrc:sG x=0) (w:World):Calls prog 270 #[ov x] w (dM w (.bool true)):=by
 have HR:=dL (lM x (by have:=hx.nm;omega) (by have:=hx.mf;omega));rw [hrc] at HR;have gH:Blk (w.alloc (.cells (oc x).toArray 32)) w 32 (oc x).toArray:=Blk.new w 32 (oc x).toArray;have dV:=dH w (.cells (oc x).toArray 32);obtain ⟨w1,hw1⟩:=dG (w.alloc (.cells (oc x).toArray 32));rw [<-hw1] at gH dV;obtain ⟨q,hq⟩:=dG w.heap.size;rw [<-hq] at gH;have HW:=dL (dN (x:=x) hw1);have HQ:=dL hq;have eR:=dL dV;obtain ⟨c0,c1,c2,c3,c4,c5,c6,c7,c8,c9,jX⟩:=dx gH;clear gH dV hw1 hq hx hrc;unfold ov at HR ⊢;go_enter func270,ntmps270;go_upto_region 1 with (fail);rw [<-HW.o,<-HQ.o];go_wp2_with fail;refine (HR.o _).mono ?_;rintro e w2 ⟨rfl,dY⟩;have eA:=dJ eR dY;clear dY c0 c1 c2 c3 c4 c5 c6 c7 c8 c9 jX;go_wp2_with fail;go_ret;exact ⟨rfl,eA.o⟩
theorem J6 {xs:List Int} (h:qw w v xs) (ho:uT xs):en w 265 #[v,(15:Int),.func (.func 266) #[] #[]] (.bool true):=λw' hb=>by
 rcases h.later hb with ⟨rfl,rfl⟩| ⟨b,off,c,x,rfl,rfl,h3,h4,_⟩
 ·exact Gb 15 266 w'
 ·have:=ho x (by simp)
  exact WZ 15 (by decide) 266 LF x (aaw x this.1 this.2) b off c w' h3 h4
theorem J7 (h:oI w v xs) (ho:nw xs):en w 267 #[v,(16:Int),.func (.func 268) #[] #[]] (.bool true):=λw' hb=>by
 rcases h.later hb with ⟨rfl,rfl⟩| ⟨b,off,c,x,rfl,rfl,h3,h4,_⟩
 ·exact tU 16 268 w'
 ·exact OY 16 (by decide) 268 LG x (aax x (ho x (by simp))) b off c w' h3 h4
theorem J8 {xs:List dX} (h:qx w v xs) (ho:Aj xs):en w 269 #[v,(20:Int),.func (.func 270) #[] #[]] (.bool true):=λw' hb=>by
 rcases h.later hb with ⟨rfl,rfl⟩| ⟨b,off,c,x,rfl,rfl,h3,h4,_⟩
 ·exact Gc 20 270 w'
 ·have:=ho x (by simp)
  exact Wa 20 (by decide) 270 LH x (aaz x this.1 this.2) b off c w' h3 h4
theorem J9 (h:oI w v xs) (ho:Oh xs):en w 267 #[v,(16:Int),.func (.func 271) #[] #[]] (.bool true):=λw' hb=>by
 rcases h.later hb with ⟨rfl,rfl⟩| ⟨b,off,c,x,rfl,rfl,h3,h4,_⟩
 ·exact tU 16 271 w'
 ·have:=ho x (by simp)
  exact OY 16 (by decide) 271 LJ x (aay x this.1 this.2) b off c w' h3 h4
theorem Oi {xs:List Int} (h:qw w v xs) (ho:uT xs):en w 193 #[v,.func (.func 178) #[] #[]] (.string (bs (lS xs))):=λw' hb=>by
 rcases h.later hb with ⟨rfl,rfl⟩| ⟨b,off,c,x,rfl,rfl,h3,h4,_⟩
 ·have:=Sw w'
  simpa [lS] using this
 ·have h1:=ho x (by simp)
  have:=Sy x (by unfold oS;omega) b off c w' h3 h4;simpa [lS] using this
theorem EM (h:oI w v xs) (ho:∀x∈xs,x.length<=1000):en w 194 #[v,.func (.func 195) #[] #[]] (.string (bs (kC xs))):=λw' hb=>by
 rcases h.later hb with ⟨rfl,rfl⟩| ⟨b,off,c,x,rfl,rfl,h3,h4,_⟩
 ·have:=Sz w'
  simpa [kC] using this
 ·have h1:=ho x (by simp)
  have:=T0 x (by omega) b off c w' h3 h4;simpa [kC] using this
theorem Oj {xs:List dX} (h:qx w v xs) (ho:Aj xs):en w 196 #[v,.func (.func 197) #[] #[]] (.string (bs (oJ xs))):=λw' hb=>by
 rcases h.later hb with ⟨rfl,rfl⟩| ⟨b,off,c,x,rfl,rfl,h3,h4,_⟩
 ·have:=T3 w'
  simpa [oJ] using this
 ·have h1:=ho x (by simp)
  have:=T6 x h1.1 h1.2 b off c w' h3 h4;simpa [oJ] using this
theorem tW {xs:List Int} (h:xs.length<=1):(lS xs).length<=18:=by
 unfold lS;have h0:=eN xs.length
 match xs,h with
 | [],_=>simp;simp at h0;omega
 | [x],_=>have:=eN x;simp at h0 ⊢;omega
theorem ki (h:xs.length<=1) (ho:∀x∈xs,x.length<=1000):(kC xs).length<=1018:=by
 unfold kC;have h0:=eN xs.length
 match xs,h with
 | [],_=>simp;simp at h0;omega
 | [x],_=>have:=gC x;have:=ho x (by simp);simp at h0 ⊢;omega
theorem tX {xs:List dX} (h:xs.length<=1) (ho:Aj xs):(oJ xs).length<=3000:=by
 unfold oJ;have h0:=eN xs.length;rcases pF h with rfl| ⟨x,rfl⟩
 ·simp only [List.flatMap_nil,bG];omega
 ·have h1:=gC (gy x)
  have h2:=lP x (ho x (by simp)).1;simp only [aj,List.flatMap_nil,bG,aP];omega
theorem qw.le {xs:List Int} (h:qw w v xs):xs.length<=1:=by
 rcases h with ⟨rfl,_⟩| ⟨_,_,_,_,rfl,_⟩ <;> simp
theorem oI.le (h:oI w v xs):xs.length<=1:=by
 rcases h with ⟨rfl,_⟩| ⟨_,_,_,_,rfl,_⟩ <;> simp
theorem qx.le {xs:List dX} (h:qx w v xs):xs.length<=1:=by
 rcases h with ⟨rfl,_⟩| ⟨_,_,_,_,rfl,_⟩ <;> simp
def eG (v:List Int) (k:List (List UInt8)):List UInt8:=(Pt.Cd.numL 1++lS v)++kC k
def vH (l:List dX):List UInt8:=Pt.Cd.numL 2++oJ l
def vI (p:List (List UInt8)):List UInt8:=Pt.Cd.numL 3++kC p
theorem tY {k:Value} {xs:List Int} (hv:qw w v xs) (hk:oI w k ks) (h1:uT xs) (h2:nw ks):
  Calls prog 125 #[.agg #[yh,v,k,(),()]] w (dM w (.tuple #[(eG xs ks),qn])):=by
 have hs2:∀x∈ks,x.length<=1000:=λx hx=>by have:=h2 x hx;omega
 have a1:=J6 hv h1;have a2:=J7 hk h2;have b1:=Oi hv h1;have b2:=EM hk hs2;have e1:=tW hv.le;have e2:=ki hk.le hs2;obtain ⟨A1,c1,rfl⟩:=hv.form;obtain ⟨A2,c2,rfl⟩:=hk.form;exact Oe A1 A2 _ c1 _ c2 _ _ w a1 a2 b1 b2 (by omega) (by omega)
theorem T8 {xs:List dX} (hv:qx w v xs) (h1:Aj xs):
  Calls prog 125 #[.agg #[(2:Int),(),(),v,()]] w (dM w (.tuple #[(vH xs),qn])):=by
 have a1:=J8 hv h1;have b1:=Oj hv h1;have e1:=tX hv.le h1;obtain ⟨A1,c1,rfl⟩:=hv.form;exact Of A1 _ c1 _ w a1 b1 (by omega)
theorem T9 (hv:oI w v xs) (h1:Oh xs):
  Calls prog 125 #[.agg #[(3:Int),(),(),(),v]] w (dM w (.tuple #[(vI xs),qn])):=by
 have hs2:∀x∈xs,x.length<=1000:=λx hx=>by have:=h1 x hx;omega
 have a1:=J9 hv h1;have b1:=EM hv hs2;have e1:=ki hv.le hs2;obtain ⟨A1,c1,rfl⟩:=hv.form;exact Og A1 _ c1 _ w a1 b1 (by omega)
end
end Go.Proofs.YtgdaahffmcfhpaaGreatDoor
