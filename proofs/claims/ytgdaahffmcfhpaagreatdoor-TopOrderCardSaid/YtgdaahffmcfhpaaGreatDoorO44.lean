/- Lemmas on the way: Ch Ci Ck Cj. -/
import Derived.Test.YtgdaahffmcfhpaaGreatDoorO43
set_option maxRecDepth 100000
set_option maxHeartbeats 8000000
namespace Go.Proofs.YtgdaahffmcfhpaaGreatDoor
open aA
open Tryz
section
open Go.RowKit
attribute [local go_sem] dR dO dS dP
theorem Wy:DQ [97]=true:=by decide
theorem aed (w:World):Calls prog 117 #[.string (bs [120])] w (dM w (.tuple #[mX,qn])):=by
 refine (Pt.man_any [120] (by decide) w).mono ?_;rintro e w' ⟨h,hb⟩;rw [if_pos ⟨by decide,by decide⟩,if_pos (by decide)] at h;exact ⟨h,hb⟩
theorem aaT (w:World):Calls prog 118 #[.string (bs [120])] w λe w'=>∃g c,e=.returned (.slice (some ⟨g,0,none⟩) 1 c)/\dQ w' w 1 (.slice (some ⟨g,0,none⟩) 1 c) 1 [.string (bs [120])]/\Below w w w':=by
 refine (Pt.cut_any [120] (by decide) w).mono ?_;rintro e w' ⟨v,rfl,ho,hb⟩;rw [Wl] at ho;have Cy:=dQ.of_row ho;obtain ⟨g,c,rfl,-⟩:=Cy.form (by decide);exact ⟨g,c,rfl,Cy,hb⟩
structure LW (W:World) (t:Nat):Prop where
 b:Blk W t 30 #[qn,qn]
variable {W w:World}
theorem LW.cells {t:Nat} (h:LW W t):W.cell? t=qn/\W.cell? (Qc t 1)=qn:=⟨h.b.cell 0,h.b.cell 1⟩
theorem LW.drew {t:Nat} (h:LW W t):LW W.drew t:=⟨h.b⟩
theorem LX {F:BS} {D:Nat} (h:fE w F D 0 [] []):
  Calls prog 71 #[Qp D,.string (bs [97]),.string (bs [120])] w λe w'=>∃F',e=.returned qn/\fE w' F' D 0 [ez] [[120]]/\iP F F' w w':=by
 have HA:=dL (sJ h Gq (by decide) (λx hx=>by cases hx));have hbd:=h.bnd;have HDo:dK (∀w' gp cp,Below w w w'->gp < w'.heap.size->w.heap.size<=gp->w'.cell? ⟨gp,0,none⟩=some (.string (bs [120]))->Calls prog 116 #[Qp D,.agg #[qn,qn,qn,yh,qn,qn,false,qn,qn,.string (bs [97]),mX],.slice (some ⟨gp,0,none⟩) 1 cp] w' λe w2=>∃F',e=.returned qn/\fE w2 F' D 0 [ez] [[120]]/\iP F F' w' w2):=dL (λw' gp cp hb hlt hge hc=>
  PJ (h.later hb) gp cp hlt (λhF=>by have:=hbd gp hF;omega) hc)
 have Tt:=dL hbd;have HP:=dL (λw=>E5 [97] (by decide) w);rw [Wy] at HP;clear hbd h;go_enter func71,ntmps71;go_wp2_with fail;refine HA.o.mono ?_;rintro e w1 ⟨A,c,rfl,hx,hb⟩;have HX:=dL (λw' (hb:Below w1 w1 w')=>aeb (hx.below hb));have eR:=dL hb;rw [bE];clear hx hb HA;go_wp2_with fail;refine (HP.o _).mono ?_;rintro e w2 ⟨rfl,hb⟩;have eA:=dJ eR hb;have ZZ:=dL hb;clear hb;go_wp2_with fail;refine (aed _).mono ?_;rintro e w3 ⟨rfl,hb⟩;have eC:=dJ eA hb;have QV:=dL (HX.o w3 (ZZ.o.trans (hb.mono ZZ.o.size)));clear hb HX ZZ;go_wp2_with fail;refine QV.o.mono ?_;rintro e w4 ⟨rfl,hb⟩;have ef:=dH w4 (.cells (ic Bw).toArray 44);have kP:=eC.o.trans (hb.mono eC.o.size);have fk:=dL (kP.trans (ef.mono kP.size));have oE:=dL (Blk.new w4 44 (ic Bw).toArray);obtain ⟨w5,iB⟩:=dG (w4.alloc (.cells (ic Bw).toArray 44));rw [<-iB] at fk oE;obtain ⟨q,hq⟩:=dG w4.heap.size;rw [<-hq] at oE;have zX:=dL (show w5=w4.alloc (.cells #[.string (bs []),qn,qn,false,false,.string (bs [])] 44) from iB);have HQ:=dL hq;clear hb ef kP iB hq QV;unfold iv Bw;go_upto_region 10 with (fail);rw [<-HQ.o,<-zX.o];go_wp2_with fail;refine (Wx _ _).mono ?_;rintro e w6 ⟨rfl,hb⟩;have lq:=dH w6 (.cells #[qn,qn] 30);have Ma:=fk.o.trans (hb.mono fk.o.size);have lZ:=dL (Ma.trans (lq.mono Ma.size));have tw:=dL (Blk.new w6 30 #[qn,qn]);obtain ⟨w7,mQ⟩:=dG (w6.alloc (.cells #[qn,qn] 30));rw [<-mQ] at lZ tw;obtain ⟨t,ht⟩:=dG w6.heap.size;rw [<-ht] at tw;have IB:w.heap.size<=t:=by have:=Ma.size;omega
 have FW:=dL mQ;have HT:=dL ht;clear hb lq Ma mQ ht oE;go_upto_region 11 with (fail);rw [<-HT.o,<-FW.o];go_wp2_with fail;refine (JI _).mono ?_;rintro e w8 ⟨rfl,hb⟩;have rD:=dJ lZ hb;have HZ8:dK (LW w8 t):=dL ⟨tw.o.below hb tw.o.lt⟩;have HZd:dK (LW w8.drew t):=dL ⟨HZ8.o.b⟩;have HBd:=dL rD.o.drew;clear hb tw;go_wp2_with fail;go_region_held3 (λw'=>w'.cell? t=qn/\w'.cell? (Qc t 1)=qn)
  (with_reducible first|exact LW.cells afj.o|exact LW.cells HZ9.o|exact LW.cells HZd.o|exact LW.cells HZ8.o)
  (first
   |(go_at_call 118;refine (aaT _).mono ?_;rintro e w9 ⟨g9,c9,rfl,ho,hb⟩;have Qi:=dJ HBd hb;have HZ9:dK (LW w9 t):=dL ⟨HZd.o.b.below hb HZd.o.b.lt⟩;have k:=EI ho;have HK:=dL k;have hge:=(dQ.ge ho g9 rfl).1;have HGE:=dL (aI HBd.o.size hge);clear ho hb k hge)
   |(go_at_call 116;refine (HDo.o _ g9 c9 Qi.o HK.o.2.2.2.2 HGE.o HK.o.1).mono ?_;rintro e Vh ⟨F',rfl,hd,st⟩;have HD:=dL hd;have r8:=dL ((iP.below _ Qi.o).trans st);have afj:dK (LW Vh t):=dL ⟨HZ9.o.b.kp st.keeps (λhF=>by have:=Tt.o t hF;omega)⟩;clear hd st))
 all_goals
  go_wp2_with fail;go_ret;exact ⟨F',rfl,HD.o,r8.o⟩
theorem TJ (w:World):(Instr.makeMap 156 none).run prog w=.ok (.map (some w.heap.size)) (w.alloc (.map #[] 0)):=by simp [go_sem,Instr.makeMap]
theorem TK {o l d nb fb:Nat} (hb:Blk w o 291 #[(),(),Qp l,false]) (hl:Si w l d nb fb 0) (h1:l < o) (h2:fb < o) (h3:d < o) (h4:nb < o):
  mA w (OS o (LS l d nb fb) (.slice none 0 0) (.slice none 0 0)) o [] []:=by
 refine ⟨l,_,_,_,⟨hb,dQ.nil_ _ _ _,dQ.nil_ _ _ _,λ_=>rfl,λ_=>rfl,⟨d,nb,fb,hl,rfl⟩,?_,λg hg=>(by cases hg),λg hg=>(by cases hg),by decide,by decide⟩,rfl⟩;rintro (h|h|h|h) <;> omega
theorem PK (who:Nat) (adV:who < 15) {d nb fb:Nat} {ff:Fm.Files} (b off cr:Nat) (w:World) (hd:Dk.Dsk 0 w d nb fb (.slice none 0 0) (dst [] ff [])) (hlt:b < w.heap.size) (h0:w.cell? (Qc b off)=yh) (h1:w.cell? ⟨b,off+1,none⟩=some (.string (bs [46]))) (hbd:b≠d/\b≠nb):
  Calls prog 113 #[.int .i64 (who:Nat),Qp d,.slice (some ⟨b,off,none⟩) 1 cr] w λe w'=>∃D F,e=.returned (.tuple #[.pointer (some ⟨D,0,none⟩),qn])/\fE w' F D who [] []/\(∀i,F i->i=d\/i=nb\/w.heap.size<=i)/\dm (λi=>i=d\/i=nb) w w'/\w.heap.size<=D:=by
 have HP:=dL (Ge b off cr w hlt h0 h1);have HD:=dL hd;have H0:=dL h0;have H1:=dL h1;have d1:decide ((who:Int) < 0)=false:=by simp
 have d2:decide ((who:Int)≥15)=false:=by simp;omega
 have d3:decide ((15:Int)<=(who:Int))=false:=by simp;omega
 clear hd h0 h1;go_enter func113,ntmps113;go_wp2_with fail;refine HP.o.mono ?_;rintro e w1 ⟨rfl,hb⟩;have HL:=dL (ON (HD.o.later hb));have eR:=dL hb;clear hb HP;go_wp2_with fail;refine HL.o.mono ?_;rintro e w2 ⟨o,l,qa,rfl,Ct,Lz,hk,ue,tu,ZU,hl4,hl5,VX,Xt⟩;have zW:=dL (TK Ct Lz hl4 hl5 VX Xt);have Mf:=dL (eF (eO (S:=λi=>i=d\/i=nb) eR.o) hk (λ_ _ h=>h));have RM:dK (∀i,OS o (LS l d nb qa) (.slice none 0 0) (.slice none 0 0) i->i=d\/i=nb\/w.heap.size<=i):=dL (by
  have hs:=eR.o.size;rintro i (h|(h|h|h|h)|h|h)
  ·right;right;omega
  ·right;right;omega
  ·exact .inl h
  ·exact .inr (.inl h)
  ·right;right;omega
  ·cases h
  ·cases h)
 clear Ct Lz hk ue tu ZU hl4 hl5 VX Xt HL;go_wp2_with fail;refine (Pt.new_any 1048576 (by decide) (by decide) _).mono ?_;rintro e w3 ⟨s,pb,kb,rfl,hst,dn,hs1,hs2,hs3⟩;have Qj:=dL hst;have eC:=dL dn;have VZ:dK (∀i,Pt.SS s pb kb i->w2.heap.size<=i/\i < w3.heap.size):=dL (λi hi=> ⟨by rcases hi with h|h|h <;> omega,hst.bnd i hi⟩);have qB:=dL (gj Mf.o dn);have HN:=dL (LK b off cr w3 (aN hlt qB.o.size) ((aM (a:=⟨b,off,none⟩) (qB.o.block b hlt (by rintro (h|h);exact hbd.1 h;exact hbd.2 h))).trans H0.o) ((aM (a:=⟨b,off+1,none⟩) (qB.o.block b hlt (by rintro (h|h);exact hbd.1 h;exact hbd.2 h))).trans H1.o));clear hst dn hs1 hs2 hs3;go_wp2_with fail;refine HN.o.mono ?_;rintro e w4 ⟨rb,rc,rfl,hro,hb4⟩;have HRO:=dL hro;have fI:=dL hb4;clear hro hb4 HN;go_wp2_with fail;refine (Wk _).mono ?_;rintro e w5 ⟨FM,p,rfl,hm,Z5,ef⟩;have B7:=dL hm;have ZX:=dL Z5;have fk:=dL ef;clear hm Z5 ef;have hmk:=TJ w5;have hal:Below w5 w5 ((w5.alloc (.map #[] 0)).alloc (.cells #[.int .i64 (who:Nat),Qs rb 1 rc,Qp o,Qp p,Qp s,(),.map (some w5.heap.size)] 158)):=((aC _ w5).alloc (aB _) _).alloc (by simp) _;have hbk:Blk ((w5.alloc (.map #[] 0)).alloc (.cells #[.int .i64 (who:Nat),Qs rb 1 rc,Qp o,Qp p,Qp s,(),.map (some w5.heap.size)] 158)) (w5.heap.size+1) 158 #[.int .i64 (who:Nat),Qs rb 1 rc,Qp o,Qp p,Qp s,(),.map (some w5.heap.size)]:=by
  have:=Blk.new (w5.alloc (.map #[] 0)) 158 #[.int .i64 (who:Nat),Qs rb 1 rc,Qp o,Qp p,Qp s,(),.map (some w5.heap.size)]
  rwa [show (w5.alloc (.map #[] 0)).heap.size=w5.heap.size+1 from ai _] at this
 obtain ⟨w6,uF⟩:=dG ((w5.alloc (.map #[] 0)).alloc (.cells #[.int .i64 (who:Nat),Qs rb 1 rc,Qp o,Qp p,Qp s,(),.map (some w5.heap.size)] 158));rw [<-uF] at hal hbk;obtain ⟨D,hD⟩:=dG (w5.heap.size+1);rw [<-hD] at hbk;have s2:=zW.o.bnd;have s3:=eC.o.size;have s4:=fI.o.size;have s5:=fk.o.size;obtain ⟨r0,r1,-,-⟩:w4.cell? rb=yh/\w4.cell? (Qc rb 1)=some (.string (bs [46]))/\True/\True:=by
  obtain ⟨g',c',e',hlt',VF,yq,k1,k2⟩:=jQ HRO.o rfl;cases e';have h0:=yq 0 _ rfl;have h1:=yq 1 _ rfl;exact ⟨h0,h1,trivial,trivial⟩
 have rge:=(dQ.ge HRO.o rb rfl);have mb:=B7.o.bnd;have hI6:gE w6 D who rb rc o p s pb kb w5 (OS o (LS l d nb qa) (.slice none 0 0) (.slice none 0 0)) FM [] [] [] (stU []) (zQ []):=
  ⟨hbk,by have:=hal.size;omega,
   (aM (a:=⟨rb,0,none⟩) ((hal.block rb (by omega)).trans (fk.o.block rb rge.2))).trans r0,
   (aM (a:=⟨rb,1,none⟩) ((hal.block rb (by omega)).trans (fk.o.block rb rge.2))).trans r1,
   (((zW.o.below eC.o).below fI.o).below fk.o).below hal,(B7.o.kp (eO (S:=λ_=>False) hal) (nt FM)),((Qj.o.later fI.o).later fk.o).later hal,
   ⟨by omega,λh=>by have:=s2 D h;omega,λh=>by have:=mb D h;omega,λh=>by have:=VZ.o D h;omega⟩,
   ⟨λh=>by have:=s2 rb h;omega,λh=>by have:=ZX.o rb h;omega,λh=>by have:=VZ.o rb h;omega⟩,
   λi h h'=>by have:=s2 i h;have:=ZX.o i h';omega,λi h h'=>by have:=s2 i h;have:=VZ.o i h';omega,λi h h'=>by have:=ZX.o i h;have:=VZ.o i h';omega⟩
 have hFF:∀i,R8 D rb s pb kb (OS o (LS l d nb qa) (.slice none 0 0) (.slice none 0 0)) FM i->i=d\/i=nb\/w.heap.size<=i:=by
  have k3:=qB.o.size;have k2:=Mf.o.size;rintro i (h|h|h|h|h)
  ·right;right;omega
  ·right;right;omega
  ·exact RM.o i h
  ·right;right;have:=ZX.o i h;omega
  ·right;right;have:=VZ.o i h;omega
 have hK6:=gj (gj (gj qB.o fI.o) fk.o) hal;have hDw:w.heap.size<=D:=by have:=qB.o.size;omega
 have HI6:=dL hI6;have HFF:=dL hFF;have Ty:=dL hK6;have Mb:=dL uF;have HDD:=dL hD;have afk:=dL (mI hI6.log);clear hal hbk uF hD s2 s3 s4 s5 r0 r1 rge mb hI6 hFF hK6;go_upto_region 13 with (fail);rw [<-HDD.o,<-Mb.o];go_wp2_with fail;refine afk.o.mono ?_;rintro e w7 ⟨v',rfl,ho,hn,hb⟩;obtain rfl:=hn rfl;have HI7:=dL (HI6.o.later hb);have HK7:=dL (gj Ty.o hb);have HPc:=dL (lR HI7.o.log);clear ho hn hb hmk;go_wp2_with fail;refine wp_loop_rounds 1 ?_;rw [rounds_succ];go_wp2_with fail;refine HPc.o.mono ?_;rintro e w8 ⟨v',rfl,ho,hn,hb⟩;obtain rfl:=hn rfl;have HI8:=dL (HI7.o.later hb);have HK8:=dL (gj HK7.o hb);clear ho hn hb;go_wp2_with fail;refine wp_loop_rounds 1 ?_;rw [rounds_succ];go_wp2_with fail;go_ret2;exact ⟨D,_,rfl,⟨rb,rc,o,p,s,pb,kb,_,_,FM,HI8.o,rfl⟩,HFF.o,HK8.o,hDw⟩
end
section
open Go.RowKit
attribute [local go_sem] dR dO dS dP
variable {w:World} {A:Option Addr}
theorem qx.ops {n c:Nat} {x:dX} (h:qx w (.slice A n c) [x]) (hx:Ir x):mR w A n c [x]:=by
 rcases h with ⟨h,_⟩| ⟨b,off,c1,y,hy,hv,hlt,hc,h1,h2⟩
 ·cases h
 ·cases hy
  cases hv;exact ⟨rfl,h1,h2,λi hi=>by
   obtain rfl:i=0:=by simp at hi;omega
   refine ⟨b,off,oc x,rfl,hlt,rfl,⟨rfl,hx⟩,λj u hu=>?_⟩;have:=hc j u hu;simpa using this⟩
theorem qw.sl {n c:Nat} {x:Int} (h:qw w (.slice A n c) [x]) (hx:oS x):Sl w 1 uv A n c [x]:=by
 rcases h with ⟨h,_⟩| ⟨b,off,c1,y,hy,hv,hlt,hc,h1,h2⟩
 ·cases h
 ·cases hy
  cases hv;exact ⟨rfl,h1,h2,λi hi=>by
   obtain rfl:i=0:=by simp at hi;omega
   refine ⟨b,off,[.int .i64 x],rfl,hlt,rfl,⟨rfl,hx⟩,λj u hu=>?_⟩
   match j,hu with
   |0,hu=>cases hu;simpa using hc⟩
theorem at_since0 (w:World) (v:Value):en w 333 #[(),v] (.slice none 0 0):=λw' _=>WR v w'
theorem at_old {A1 A2:Option Addr} {n1 c1 n2 c2:Nat} (ho:qx w (.slice A1 n1 c1) [ez]) (hv:qw w (.slice A2 n2 c2) [1]):en w 333 #[Qq A1 n1 c1,Qq A2 n2 c2] (.slice none 0 0):=λw' hb=>
 L8 ez rfl rfl A1 n1 c1 w' ((ho.later hb).ops EX) A2 n2 c2 ((hv.later hb).sl (by unfold oS;decide))
theorem at_no (w:World) (s:ByteArray):en w 191 #[(),.string s] (.bool false):=λw' _=>(slices_Contains_string_empty none 0 s w').mono λ_ _ ⟨h1,h2⟩=> ⟨h1,h2 ▸ aC _ _⟩
theorem at_yes {n c:Nat} {k:List UInt8} (h:oI w (.slice A n c) [k]):en w 191 #[Qq A n c,k] (.bool true):=λw' hb=>by
 rcases h.later hb with ⟨h,_⟩| ⟨b,off,c1,y,hy,hv,hlt,hc,h1,h2⟩
 ·cases h
 ·cases hy
  cases hv;refine (slices_Contains_string b off 1 c [bs k] (bs k) w' (by simp) (by decide) (λj hj=>?_)).mono ?_
  ·obtain rfl:j=0:=by simp at hj;omega
   simpa using hc
  ·rintro e w2 ⟨rfl,rfl⟩
   refine ⟨?_,aC _ _⟩;have:Lib.containsS ([bs k].take 1) (bs k)=true:=(Lib.containsS_iff _ _).2 (by simp);rw [this]
theorem JJ:(Pt.sumL [120]).take 32=kX:=rfl
section
variable {w:World} {A1 A2 Ao Ah:Option Addr} {n1 c1 n2 c2 no co nh ch:Nat}
theorem aaU:Calls prog 273 #[.agg #[yh,Qq A1 n1 c1,(),(),()],(),()] w (dM w (.slice none 0 0)):=
 EN A1 none n1 c1 0 0 none 0 0 w (at_since0 w _)
theorem aaV (ho:qx w (.slice Ao no co) [ez]) (hv:qw w (.slice A1 n1 c1) [1]):Calls prog 273 #[.agg #[yh,Qq A1 n1 c1,(),(),()],Qq Ao no co,()] w (dM w (.slice none 0 0)):=
 EN A1 none n1 c1 0 0 Ao no co w (at_old ho hv)
theorem aaW (ho:qx w (.slice Ao no co) [ez]) (hh:oI w (.slice Ah nh ch) [[120]]) (hv:qw w (.slice A1 n1 c1) [1]):Calls prog 273 #[.agg #[yh,Qq A1 n1 c1,(),(),()],Qq Ao no co,Qq Ah nh ch] w (dM w (.slice none 0 0)):=by
 rcases hh with ⟨h,_⟩| ⟨b,off,c3,y,hy,YT,hlt,hc,h1,h2⟩
 ·cases h
 ·cases hy
  cases YT;exact Ou A1 none n1 c1 0 0 Ao no co [120] (by decide) b off ch w (at_old ho hv) hlt hc (at_no w _)
theorem aaX (ho:qx w (.slice Ao no co) [ez]) (hh:oI w (.slice Ah nh ch) [[120]]) (hv:qw w (.slice A1 n1 c1) [1]) (hk:oI w (.slice A2 n2 c2) [kX]):Calls prog 273 #[.agg #[yh,Qq A1 n1 c1,Qq A2 n2 c2,(),()],Qq Ao no co,Qq Ah nh ch] w λe w'=>∃g c v,e=.returned (.slice (some ⟨g,0,none⟩) 1 c)/\dQ w' w 5 (.slice (some ⟨g,0,none⟩) 1 c) 1 [.int .i64 3,.slice none 0 0,.slice none 0 0,.slice none 0 0,v]/\oI w' v [[120]]/\jC w v/\Below w w w':=by
 rcases hh with ⟨h,_⟩| ⟨b,off,c3,y,hy,YT,hlt,hc,h1,h2⟩
 ·cases h
 ·cases hy
  cases YT;exact Ov A1 A2 n1 c1 n2 c2 Ao no co [120] (by decide) b off ch w (at_old ho hv) hlt hc (by rw [JJ];exact at_yes hk)
theorem aaY (ho:qx w (.slice Ao no co) [ez]) (hh:oI w (.slice Ah nh ch) [[120]]):Calls prog 273 #[.agg #[yh,(),(),(),()],Qq Ao no co,Qq Ah nh ch] w λe w'=>∃g c v,e=.returned (.slice (some ⟨g,0,none⟩) 1 c)/\dQ w' w 5 (.slice (some ⟨g,0,none⟩) 1 c) 1 [.int .i64 2,.slice none 0 0,.slice none 0 0,v,.slice none 0 0]/\qx w' v [ez]/\jC w v/\Below w w w':=by
 rcases hh with ⟨h,_⟩| ⟨b,off,c3,y,hy,YT,hlt,hc,h1,h2⟩
 ·cases h
 ·cases hy
  cases YT;exact Ow none none 0 0 0 0 Ao no co ez [120] (by decide) b off ch w (λw' hb=>L7 ez rfl rfl EX.1 EX.2 Ao no co w' ((ho.later hb).ops EX)) hlt hc (at_no w _)
end
end
section
open Go.RowKit
attribute [local go_sem] dR dO dS dP
structure jV (w W:World) (m:Nat) (cs:Array Value) (D who rb rc o p s pb kb nm:Nat) (FL FM:BS) (L:List dX) (P:List (List UInt8)):Prop where
 b:Below w w W
 m_:Blk W m 212 cs
 dev:gE W D who rb rc o p s pb kb nm FL FM L P L (stU P) (zQ P)
section
variable {w W W':World} {m D who rb rc o p s pb kb nm:Nat} {cs:Array Value} {FL FM:BS} {L:List dX} {P:List (List UInt8)}
theorem jV.later (h:jV w W m cs D who rb rc o p s pb kb nm FL FM L P) (hb:Below W W W'):jV w W' m cs D who rb rc o p s pb kb nm FL FM L P:=⟨h.b.trans (hb.mono h.b.size),h.m_.below hb h.m_.lt,h.dev.later hb⟩
theorem jV.cells {u0 u1 u2 u3 u4:Value} (h:jV w W m #[u0,u1,u2,u3,u4] D who rb rc o p s pb kb nm FL FM L P):W.cell? (Qc D 2)=Qp o/\W.cell? m=some u0/\W.cell? (Qc m 1)=some u1/\W.cell? (Qc m 2)=some u2/\W.cell? (Qc m 3)=some u3/\W.cell? (Qc m 4)=some u4:=
 ⟨h.dev.c2,h.m_.cell 0,h.m_.cell 1,h.m_.cell 2,h.m_.cell 3,h.m_.cell 4⟩
end
variable {w:World}
theorem jm{w0 w':World} (h:Below w0 w0 w) (hb:Below w w w'):Below w0 w0 w':=h.trans (hb.mono h.size)
variable {V:List Int} {L:List dX}
theorem qz {F:BS} {D who:Nat} {K P:List (List UInt8)} (b1:V.length<=1) (b2:K.length<=1) (b3:uT V) (b4:nw K) (bL:L.length<=1) (bP:P.length<=1)
  (ya:∀{W A1 c1 A2 c2 Ao co Ah ch},qx W (.slice Ao L.length co) L->oI W (.slice Ah P.length ch) P->qw W (.slice A1 V.length c1) V->oI W (.slice A2 K.length c2) K->
   Calls prog 273 #[.agg #[yh,Qq A1 V.length c1,Qq A2 K.length c2,(),()],Qq Ao L.length co,Qq Ah P.length ch] W (dM W (.slice none 0 0)))
  (h:fE w F D who L P):
  Calls prog 199 #[Qp D,(eG V K)] w λe w'=>∃F',e=.returned (.tuple #[(),qn])/\fE w' F' D who L P/\iP F F' w w':=by
 have hbd:=h.bnd;have Tt:=dL hbd;have H:=dL h;obtain ⟨rb,rc,o,p,s,pb,kb,nm,FL,FM,hi,rfl⟩:=h;have HI:=dL hi;clear hi hbd;have yf:=dL (Uw V b1 K b2 b3 b4 w);go_enter func199,ntmps199;go_wp2_with fail;refine yf.o.mono ?_;rintro e w1 ⟨v,k,rfl,hv,hk,Yk,iU,hb⟩;obtain ⟨A1,c1,rfl⟩:=hv.form;obtain ⟨A2,c2,rfl⟩:=hk.form;have HV:=dL hv;have Tj:=dL hk;clear hv hk Yk iU;have hal:=dH w1 (.cells #[yh,Qq A1 V.length c1,Qq A2 K.length c2,(),()] 212);have hm2:=Blk.new w1 212 #[yh,Qq A1 V.length c1,Qq A2 K.length c2,(),()];obtain ⟨w2,eV⟩:=dG (w1.alloc (.cells #[yh,Qq A1 V.length c1,Qq A2 K.length c2,(),()] 212));obtain ⟨m,hm⟩:=dG w1.heap.size;rw [<-eV] at hal hm2;rw [<-hm] at hm2;have fD:=hb.trans (hal.mono hb.size);have Cf:dK (jV w w2 m #[yh,Qq A1 V.length c1,Qq A2 K.length c2,(),()] D who rb rc o p s pb kb nm FL FM L P):=dL ⟨fD,hm2,HI.o.later fD⟩;have rH:=dL eV;have HM:=dL hm;have Y2:=dL hal;have Q7:dK (Below w1 w1 w2.drew):=dL hal.drew;have UN:dK (w.heap.size<=m):=dL (by rw [hm];exact hb.size);clear hal hm2 eV hm fD hb yf;go_upto_region 4 with (fail);rw [<-HM.o,<-rH.o];have uD:dK (jV w w2.drew m #[yh,Qq A1 V.length c1,Qq A2 K.length c2,(),()] D who rb rc o p s pb kb nm FL FM L P):=dL (Cf.o.later (aC _ w2).drew);go_wp2_with fail;have HV0:=dL (HV.o.later (Y2.o.drew));have ZJ:=dL (Tj.o.later (Y2.o.drew));go_region_held3 (λw'=>w'.cell? (Qc D 2)=Qp o/\w'.cell? m=yh/\w'.cell? (Qc m 1)=Qq A1 V.length c1/\w'.cell? (Qc m 2)=Qq A2 K.length c2/\w'.cell? (Qc m 3)=()/\w'.cell? (Qc m 4)=())
  (with_reducible first|exact jV.cells qM.o|exact jV.cells vW.o|exact jV.cells ze.o|exact jV.cells uD.o|exact jV.cells Cf.o)
  (first
   |(go_at_call 127;refine (mI (by with_reducible first|exact uD.o.dev.log|exact vW.o.dev.log)).mono ?_;rintro e w3 ⟨v',rfl,ho,hn,hb⟩;have ze:dK (jV w w3 m #[yh,Qq A1 V.length c1,Qq A2 K.length c2,(),()] D who rb rc o p s pb kb nm FL FM L P):=dL (jV.later (by with_reducible first|exact vW.o|exact uD.o) hb);have hlo:=gU.ls ho hn bL;obtain ⟨Ao,co,rfl⟩:=hlo.form;have qL:=dL hlo;clear ho hn hlo;(try have Cg:=dL (Y3.o.later hb));(have Tk:=dL (qw.later (by with_reducible first|exact RO.o|exact HV0.o) hb));(have qB:=dL (oI.later (by with_reducible first|exact qZ.o|exact ZJ.o) hb));clear hb)
   |(go_at_call 173;refine (lR (by with_reducible first|exact uD.o.dev.log|exact ze.o.dev.log)).mono ?_;rintro e w4 ⟨v',rfl,ho,hn,hb⟩;have vW:dK (jV w w4 m #[yh,Qq A1 V.length c1,Qq A2 K.length c2,(),()] D who rb rc o p s pb kb nm FL FM L P):=dL (jV.later (by with_reducible first|exact ze.o|exact uD.o) hb);have Va:=fm.ls ho hn bP;obtain ⟨Ah,ch,rfl⟩:=Va.form;have Y3:=dL Va;clear ho hn Va;(try have rI:=dL (qL.o.later hb));(have RO:=dL (qw.later (by with_reducible first|exact Tk.o|exact HV0.o) hb));(have qZ:=dL (oI.later (by with_reducible first|exact qB.o|exact ZJ.o) hb));clear hb)
   |(go_at_call 273;(first|refine (ya rI.o Y3.o RO.o qZ.o).mono ?_|refine (ya qL.o Cg.o Tk.o qB.o).mono ?_);rintro e w5 ⟨rfl,hb⟩;have qM:dK (jV w w5 m #[yh,Qq A1 V.length c1,Qq A2 K.length c2,(),()] D who rb rc o p s pb kb nm FL FM L P):=dL (jV.later (by with_reducible first|exact vW.o|exact ze.o) hb);clear hb))
 all_goals
  clear uD Cf;go_wp2_with fail;refine wp_loop_rounds 1 ?_;rw [rounds_succ];have a3:=qM.o.m_.cell 3;have a4:=qM.o.m_.cell 4;simp at a3 a4;go_wp2_with fail;refine wp_loop_rounds 1 ?_;rw [rounds_succ];go_wp2_with fail;refine wp_loop_rounds 1 ?_;rw [rounds_succ];go_wp2_with fail;go_ret2;exact ⟨_,rfl,⟨rb,rc,o,p,s,pb,kb,nm,FL,FM,qM.o.dev,rfl⟩,iP.below _ qM.o.b⟩
theorem xz{kd:Int} {M:List UInt8} {F:BS} {D who:Nat} {K P:List (List UInt8)} (b1:V.length<=1) (b2:K.length<=1) (b3:uT V) (b4:nw K) (bL:L.length<=1) (bP:P.length<=1)
  (ya:∀{W A1 c1 A2 c2 Ao co Ah ch},qx W (.slice Ao L.length co) L->oI W (.slice Ah P.length ch) P->qw W (.slice A1 V.length c1) V->oI W (.slice A2 K.length c2) K->
   Calls prog 273 #[.agg #[yh,Qq A1 V.length c1,Qq A2 K.length c2,(),()],Qq Ao L.length co,Qq Ah P.length ch] W λe w'=>∃g c Ax nx cx Ay ny cy,e=.returned (.slice (some ⟨g,0,none⟩) 1 c)/\dQ w' W 5 (.slice (some ⟨g,0,none⟩) 1 c) 1 [.int .i64 kd,.slice none 0 0,.slice none 0 0,.slice Ax nx cx,.slice Ay ny cy]/\
    (∀w2,Below w' w' w2->Calls prog 125 #[.agg #[kd,(),(),.slice Ax nx cx,.slice Ay ny cy]] w2 λe w3=>e=.returned (.tuple #[M,qn])/\Below w2.heap.size w2 w3)/\Below W W w')
  (h:fE w F D who L P):
  Calls prog 199 #[Qp D,(eG V K)] w λe w'=>∃F' g c,e=.returned (.tuple #[.slice (some ⟨g,0,none⟩) 1 c,qn])/\dQ w' w 1 (.slice (some ⟨g,0,none⟩) 1 c) 1 [.string (bs M)]/\fE w' F' D who L P/\iP F F' w w':=by
 have hbd:=h.bnd;have Tt:=dL hbd;have H:=dL h;obtain ⟨rb,rc,o,p,s,pb,kb,nm,FL,FM,hi,rfl⟩:=h;have HI:=dL hi;clear hi hbd;have yf:=dL (Uw V b1 K b2 b3 b4 w);obtain ⟨j0,hj,hy0,hy1,hy2⟩:=info_parts Ik.info9s;have HJ:=dL hj;have z7:=dL hy0;have Cv:=dL hy1;have Cw:=dL hy2;clear hj hy0 hy1 hy2;go_enter func199,ntmps199;go_wp2_with fail;refine yf.o.mono ?_;rintro e w1 ⟨v,k,rfl,hv,hk,Yk,iU,hb⟩;obtain ⟨A1,c1,rfl⟩:=hv.form;obtain ⟨A2,c2,rfl⟩:=hk.form;have HV:=dL hv;have Tj:=dL hk;clear hv hk Yk iU;have hal:=dH w1 (.cells #[yh,Qq A1 V.length c1,Qq A2 K.length c2,(),()] 212);have hm2:=Blk.new w1 212 #[yh,Qq A1 V.length c1,Qq A2 K.length c2,(),()];obtain ⟨w2,eV⟩:=dG (w1.alloc (.cells #[yh,Qq A1 V.length c1,Qq A2 K.length c2,(),()] 212));obtain ⟨m,hm⟩:=dG w1.heap.size;rw [<-eV] at hal hm2;rw [<-hm] at hm2;have fD:=hb.trans (hal.mono hb.size);have Cf:dK (jV w w2 m #[yh,Qq A1 V.length c1,Qq A2 K.length c2,(),()] D who rb rc o p s pb kb nm FL FM L P):=dL ⟨fD,hm2,HI.o.later fD⟩;have rH:=dL eV;have HM:=dL hm;have Y2:=dL hal;have Q7:dK (Below w1 w1 w2.drew):=dL hal.drew;have UN:dK (w.heap.size<=m):=dL (by rw [hm];exact hb.size);clear hal hm2 eV hm fD hb yf;go_upto_region 4 with (fail);rw [<-HM.o,<-rH.o];have uD:dK (jV w w2.drew m #[yh,Qq A1 V.length c1,Qq A2 K.length c2,(),()] D who rb rc o p s pb kb nm FL FM L P):=dL (Cf.o.later (aC _ w2).drew);go_wp2_with fail;have HV0:=dL (HV.o.later (Y2.o.drew));have ZJ:=dL (Tj.o.later (Y2.o.drew));go_region_held3 (λw'=>w'.cell? (Qc D 2)=Qp o/\w'.cell? m=yh/\w'.cell? (Qc m 1)=Qq A1 V.length c1/\w'.cell? (Qc m 2)=Qq A2 K.length c2/\w'.cell? (Qc m 3)=()/\w'.cell? (Qc m 4)=())
  (with_reducible first|exact jV.cells qM.o|exact jV.cells vW.o|exact jV.cells ze.o|exact jV.cells uD.o|exact jV.cells Cf.o)
  (first
   |(go_at_call 127;refine (mI (by with_reducible first|exact uD.o.dev.log|exact vW.o.dev.log)).mono ?_;rintro e w3 ⟨v',rfl,ho,hn,hb⟩;have ze:dK (jV w w3 m #[yh,Qq A1 V.length c1,Qq A2 K.length c2,(),()] D who rb rc o p s pb kb nm FL FM L P):=dL (jV.later (by with_reducible first|exact vW.o|exact uD.o) hb);have hlo:=gU.ls ho hn bL;obtain ⟨Ao,co,rfl⟩:=hlo.form;have qL:=dL hlo;clear ho hn hlo;(try have Cg:=dL (Y3.o.later hb));(have Tk:=dL (qw.later (by with_reducible first|exact RO.o|exact HV0.o) hb));(have qB:=dL (oI.later (by with_reducible first|exact qZ.o|exact ZJ.o) hb));clear hb)
   |(go_at_call 173;refine (lR (by with_reducible first|exact uD.o.dev.log|exact ze.o.dev.log)).mono ?_;rintro e w4 ⟨v',rfl,ho,hn,hb⟩;have vW:dK (jV w w4 m #[yh,Qq A1 V.length c1,Qq A2 K.length c2,(),()] D who rb rc o p s pb kb nm FL FM L P):=dL (jV.later (by with_reducible first|exact ze.o|exact uD.o) hb);have Va:=fm.ls ho hn bP;obtain ⟨Ah,ch,rfl⟩:=Va.form;have Y3:=dL Va;clear ho hn Va;(try have rI:=dL (qL.o.later hb));(have RO:=dL (qw.later (by with_reducible first|exact Tk.o|exact HV0.o) hb));(have qZ:=dL (oI.later (by with_reducible first|exact qB.o|exact ZJ.o) hb));clear hb)
   |(go_at_call 273;(first|refine (ya rI.o Y3.o RO.o qZ.o).mono ?_|refine (ya qL.o Cg.o Tk.o qB.o).mono ?_);rintro e w5 ⟨ga,ca,Ax,nx,cx,Ay,ny,cy,rfl,hoa,ME,hb⟩;have qM:dK (jV w w5 m #[yh,Qq A1 V.length c1,Qq A2 K.length c2,(),()] D who rb rc o p s pb kb nm FL FM L P):=dL (jV.later (by with_reducible first|exact vW.o|exact ze.o) hb);have HOA:=dL hoa;have HLA:=dL ME;clear hoa ME;clear hb))
 all_goals
  clear uD Cf;go_wp2_with fail;obtain ⟨ga',ca',ea,hga,-,hca,-,-⟩:=jQ HOA.o rfl;cases ea;have f0:=hca 0 _ rfl;have f1:=hca 1 _ rfl;have f2:=hca 2 _ rfl;have f3:=hca 3 _ rfl;have f4:=hca 4 _ rfl;simp only [aV] at f1 f2 f3 f4;have f0':w5.cell? ga=kd:=f0;have hal:=dH w5 (.cells #[kd,(),(),.slice Ax nx cx,.slice Ay ny cy] 212);have qD:=dL (Blk.new w5 212 #[kd,(),(),.slice Ax nx cx,.slice Ay ny cy]);obtain ⟨w6,uF⟩:=dG (w5.alloc (.cells #[kd,(),(),.slice Ax nx cx,.slice Ay ny cy] 212));obtain ⟨q,hq⟩:=dG w5.heap.size;rw [<-uF] at hal qD;rw [<-hq] at qD;have RP:=dL (qM.o.later hal);have afl:=dL (HLA.o w6 hal);have Mb:=dL uF;have HQQ:=dL hq;clear hal uF hq hca;refine wp_loop_rounds 2 ?_;rw [rounds_succ];go_upto_region 10 with (fail);rw [<-HQQ.o,<-Mb.o];clear f0 f0' f1 f2 f3 f4;have a0:=qD.o.cell 0;have a1:=qD.o.cell 1;have a2:=qD.o.cell 2;have a3:=qD.o.cell 3;have a4:=qD.o.cell 4;simp at a0 a1 a2 a3 a4;go_wp2_with fail;refine afl.o.mono ?_;rintro e w7 ⟨rfl,hb⟩;have RQ:=dL (RP.o.later hb);clear hb a0 a1 a2 a3 a4 qD;go_wp2_with (at_builtin;refine de _ rfl (.tmp 51) (.tmp 53) 99 99 rfl 9 j0 (.string ⟨#[]⟩) 1 underlying99 HJ.o z7.o Cv.o rfl (by decide) rfl _ rfl 1 (by decide) [.string (bs M)] (Src.one underlying99 (by simp [go_sem]) rfl) (by decide) (by rw [Cw.o];decide) ?_)
  intro MK w8 hown uk;have vV:Below w7 w7 w8:=((aC _ _).alloc (aB _) _).trans (uk.mono (by simp));obtain ⟨G,hG⟩:=dG (w7.heap.size+1);rw [<-hG] at hown;have ZO:=dL (dQ.mono (B':=w.heap.size) hown (by have:=RQ.o.b.size;omega));have HH8:=dL (RQ.o.later vV);have HG:=dL hG;clear hown uk vV hG RQ RP qM;rw [<-HG.o];go_wp2_with fail;rw [rounds_succ];have a3:=HH8.o.m_.cell 3;have a4:=HH8.o.m_.cell 4;simp at a3 a4;go_wp2_with fail;refine wp_loop_rounds 1 ?_;rw [rounds_succ];go_wp2_with fail;refine wp_loop_rounds 1 ?_;rw [rounds_succ];go_wp2_with fail;go_ret2;exact ⟨_,G,MK,rfl,ZO.o,⟨rb,rc,o,p,s,pb,kb,nm,FL,FM,HH8.o.dev,rfl⟩,iP.below _ HH8.o.b⟩
section
variable {w:World} {F:BS} {D who:Nat}
variable {W:World} {v:Value}
theorem pz (h:oI W v []):v=.slice none 0 0:=by
 rcases h with ⟨_,h⟩| ⟨_,_,_,_,h,_⟩
 ·exact h
 ·cases h
theorem TL (h:qx W v []):v=.slice none 0 0:=by
 rcases h with ⟨_,h⟩| ⟨_,_,_,_,h,_⟩
 ·exact h
 ·cases h
theorem TM (h:qw W v []):v=.slice none 0 0:=by
 rcases h with ⟨_,h⟩| ⟨_,_,_,_,h,_⟩
 ·exact h
 ·cases h
def HN (V:List Int) (K:List (List UInt8)) (w:World) (F:BS) (D who:Nat) (L:List dX) (P:List (List UInt8)):Prop:=
 Calls prog 199 #[Qp D,(eG V K)] w λe w'=>∃F',e=.returned (.tuple #[(),qn])/\fE w' F' D who L P/\iP F F' w w'
def HO (V:List Int) (K:List (List UInt8)) (M:List UInt8) (w:World) (F:BS) (D who:Nat) (L:List dX) (P:List (List UInt8)):Prop:=
 Calls prog 199 #[Qp D,(eG V K)] w λe w'=>∃F' g c,e=.returned (.tuple #[.slice (some ⟨g,0,none⟩) 1 c,qn])/\dQ w' w 1 (.slice (some ⟨g,0,none⟩) 1 c) 1 [.string (bs M)]/\fE w' F' D who L P/\iP F F' w w'
theorem TN:uT [1]:=by intro x hx;rw [aW.1 hx];decide
theorem TO:nw []:=by intro x hx;cases hx
theorem PL (h:fE w F D who [] []):HN [1] [] w F D who [] []:=
 qz (by decide) (by decide) TN TO (by decide) (by decide) (λho hh _ hk=>by rw [TL ho,pz hh,pz hk];exact aaU) h
theorem PM (h:fE w F D who [ez] []):HN [1] [] w F D who [ez] []:=
 qz (by decide) (by decide) TN TO (by decide) (by decide) (λho hh hv hk=>by rw [pz hh,pz hk];exact aaV ho hv) h
theorem Eb (h:fE w F D who [ez] [[120]]):HN [1] [] w F D who [ez] [[120]]:=
 qz (by decide) (by decide) TN TO (by decide) (by decide) (λho hh hv hk=>by rw [pz hk];exact aaW ho hh hv) h
theorem PN (h:fE w F D who [ez] [[120]]):HO [] [] (vH [ez]) w F D who [ez] [[120]]:=
 xz (by decide) (by decide) (by intro x hx;cases hx) TO (by decide) (by decide) (λho hh hv hk=>by
  rw [TM hv,pz hk];refine (aaY ho hh).mono ?_;rintro e w' ⟨g,c,v,rfl,h1,h2,-,hb⟩;obtain ⟨A,c',rfl⟩:=h2.form;exact ⟨g,c,_,_,_,_,_,_,rfl,h1,λw2 h3=>T8 (h2.later h3) (λx hx=>by rw [aW.1 hx];exact ⟨okX,rcX⟩),hb⟩) h
theorem PO (h:fE w F D who [ez] [[120]]):HO [1] [kX] (vI [[120]]) w F D who [ez] [[120]]:=
 xz (by decide) (by decide) TN (by intro x hx;rw [aW.1 hx];exact xo) (by decide) (by decide) (λho hh hv hk=>by
  refine (aaX ho hh hv hk).mono ?_;rintro e w' ⟨g,c,v,rfl,h1,h2,-,hb⟩;obtain ⟨A,c',rfl⟩:=h2.form;exact ⟨g,c,_,_,_,_,_,_,rfl,h1,λw2 h3=>T9 (h2.later h3) (λx hx=>by rw [aW.1 hx];decide),hb⟩) h
end
variable {w:World}
theorem PR {F:BS} {D who:Nat} (h:fE w F D who [] []):
  Calls prog 199 #[Qp D,.string (bs (vH [ez]))] w λe w'=>∃F',e=.returned (.tuple #[(),qn])/\fE w' F' D who [ez] []/\iP F F' w w':=by
 have hbd:=h.bnd;have Tt:=dL hbd;have ug:dK (∀w' gl cl,Below w w w'->gl < w'.heap.size->w.heap.size<=gl->(∀j u,(oc ez)[j]? =some u->w'.cell? ⟨gl,0+j,none⟩=some u)->Calls prog 251 #[Qp D,(),.slice (some ⟨gl,0,none⟩) 1 cl] w' λe w2=>∃F',e=.returned qn/\fE w2 F' D who [ez] []/\iP F F' w' w2):=dL (λw' gl cl hb hlt hge hc=>Wu (h.later hb) gl cl hlt (λhF=>by have:=hbd gl hF;omega) hc);have H:=dL h;obtain ⟨rb,rc,o,p,s,pb,kb,nm,FL,FM,hi,rfl⟩:=h;have HI:=dL hi;clear hi hbd;have yf:=dL (aaF [ez] (by simp) (λx hx=>by rw [aW.1 hx];exact ⟨okX,rcX⟩) w);go_enter func199,ntmps199;go_wp2_with fail;refine yf.o.mono ?_;rintro e w1 ⟨v,rfl,hv,Yk,hb⟩;obtain ⟨b1,off1,c1,x1,hx1,rfl,dV,hc1,hk1,hk2⟩:∃b off c x,[ez]=[x]/\v=.slice (some ⟨b,off,none⟩) 1 c/\b < w1.heap.size/\(∀j u,(oc x)[j]? =some u->w1.cell? ⟨b,off+j,none⟩=some u)/\1<=c/\c<=9223372036854775807:=by
  rcases hv with ⟨h,_⟩|h
  ·cases h
  ·exact h
 cases hx1;clear hv hk1 hk2;have Ht:=dL hc1;clear hc1 Yk;have hal:=dH w1 (.cells #[(2:Int),(),(),.slice (some ⟨b1,off1,none⟩) 1 c1,()] 212);have hm2:=Blk.new w1 212 #[(2:Int),(),(),.slice (some ⟨b1,off1,none⟩) 1 c1,()];obtain ⟨w2,eV⟩:=dG (w1.alloc (.cells #[(2:Int),(),(),.slice (some ⟨b1,off1,none⟩) 1 c1,()] 212));obtain ⟨m,hm⟩:=dG w1.heap.size;rw [<-eV] at hal hm2;rw [<-hm] at hm2;have fD:=hb.trans (hal.mono hb.size);have Cf:dK (jV w w2 m #[(2:Int),(),(),.slice (some ⟨b1,off1,none⟩) 1 c1,()] D who rb rc o p s pb kb nm FL FM [] []):=dL ⟨fD,hm2,HI.o.later fD⟩;have rH:=dL eV;have HM:=dL hm;have Y2:=dL hal;have Q7:dK (Below w1 w1 w2.drew):=dL hal.drew;have UN:dK (w.heap.size<=m):=dL (by rw [hm];exact hb.size);clear hal hm2 eV hm fD hb yf;go_upto_region 4 with (fail);rw [<-HM.o,<-rH.o];have uD:dK (jV w w2.drew m #[(2:Int),(),(),.slice (some ⟨b1,off1,none⟩) 1 c1,()] D who rb rc o p s pb kb nm FL FM [] []):=dL (Cf.o.later (aC _ w2).drew);go_wp2_with fail;go_region_held3 (λw'=>w'.cell? (Qc D 2)=Qp o/\w'.cell? m=(2:Int)/\w'.cell? (Qc m 1)=()/\w'.cell? (Qc m 2)=()/\w'.cell? (Qc m 3)=some (.slice (some (Qc b1 off1)) 1 c1)/\w'.cell? (Qc m 4)=())
  (with_reducible first|exact jV.cells qM.o|exact jV.cells vW.o|exact jV.cells ze.o|exact jV.cells uD.o|exact jV.cells Cf.o)
  (first
   |(go_at_call 127;refine (mI (by with_reducible first|exact uD.o.dev.log|exact vW.o.dev.log)).mono ?_;rintro e w3 ⟨v',rfl,ho,hn,hb⟩;have ze:dK (jV w w3 m #[(2:Int),(),(),.slice (some ⟨b1,off1,none⟩) 1 c1,()] D who rb rc o p s pb kb nm FL FM [] []):=dL (jV.later (by with_reducible first|exact vW.o|exact uD.o) hb);obtain rfl:=hn rfl;clear ho hn;(have QV:=dL (jm (by with_reducible first|exact UO.o|exact Q7.o) hb));clear hb)
   |(go_at_call 173;refine (lR (by with_reducible first|exact uD.o.dev.log|exact ze.o.dev.log)).mono ?_;rintro e w4 ⟨v',rfl,ho,hn,hb⟩;have vW:dK (jV w w4 m #[(2:Int),(),(),.slice (some ⟨b1,off1,none⟩) 1 c1,()] D who rb rc o p s pb kb nm FL FM [] []):=dL (jV.later (by with_reducible first|exact ze.o|exact uD.o) hb);obtain rfl:=hn rfl;clear ho hn;(have UO:=dL (jm (by with_reducible first|exact QV.o|exact Q7.o) hb));clear hb)
   |(go_at_call 273;(first|refine (pn 2 (by decide) _ _ _ _ _ _ _).mono ?_|refine (pn 2 (by decide) _ _ _ _ _ _ _).mono ?_);rintro e w5 ⟨rfl,hb⟩;have qM:dK (jV w w5 m #[(2:Int),(),(),.slice (some ⟨b1,off1,none⟩) 1 c1,()] D who rb rc o p s pb kb nm FL FM [] []):=dL (jV.later (by with_reducible first|exact vW.o|exact ze.o) hb);(have Y4:=dL (jm (by with_reducible first|exact UO.o|exact QV.o) hb));clear hb))
 all_goals
  clear uD Cf;go_wp2_with fail;refine wp_loop_rounds 1 ?_;rw [rounds_succ];have a3:=qM.o.m_.cell 3;have a4:=qM.o.m_.cell 4;simp at a3 a4;go_wp2_with fail;refine wp_loop_rounds 2 ?_;rw [rounds_succ];have hcl:∀j u,(oc ez)[j]? =some u->w5.cell? ⟨b1,off1+j,none⟩=some u:=λj u hu=>(aM (a:=⟨b1,off1+j,none⟩) (Y4.o.block b1 dV)).trans (Ht.o j u hu)
  obtain ⟨x,hx⟩:=dG ez;rw [<-hx] at hcl;have e0:=hcl 0 _ rfl;have e1:=hcl 1 _ rfl;have e2:=hcl 2 _ rfl;have e3:=hcl 3 _ rfl;have e4:=hcl 4 _ rfl;have e5:=hcl 5 _ rfl;have e6:=hcl 6 _ rfl;have e7:=hcl 7 _ rfl;have e8:=hcl 8 _ rfl;have e9:=hcl 9 _ rfl;have wD:=hcl 10 _ rfl;simp only [bZ] at e0;have hal:=dH w5 (.cells (oc x).toArray 32);have Ch:=Blk.new w5 32 (oc x).toArray;obtain ⟨w6,uF⟩:=dG (w5.alloc (.cells (oc x).toArray 32));obtain ⟨q,hq⟩:=dG w5.heap.size;rw [<-uF] at hal Ch;rw [<-hq] at Ch;have RP:=dL (qM.o.later hal);have qD:=dL Ch;have Mb:=dL (dN (x:=x) uF);have HQQ:=dL hq;have HX:=dL hx;clear hal uF hq hcl Ch hx;go_upto_region 16 with (fail);rw [<-HQQ.o,<-Mb.o];clear e0 e1 e2 e3 e4 e5 e6 e7 e8 e9 wD;obtain ⟨c0,c1',c2,c3,c4,c5,c6,c7,c8,c9,jX⟩:=dx qD.o;have hal:=dH w6 (.cells (oc x).toArray 32);have hq7:=Blk.new w6 32 (oc x).toArray;obtain ⟨w7,mQ⟩:=dG (w6.alloc (.cells (oc x).toArray 32));obtain ⟨q7,Uf⟩:=dG w6.heap.size;rw [<-mQ] at hal hq7;rw [<-Uf] at hq7;have RQ:=dL (RP.o.later hal);have afm:=dL (ug.o w7 q7 1 RQ.o.b hq7.lt (by rw [Uf];exact RP.o.b.size) (λj u hu=>by rw [aV,hq7.cell,HX.o];simpa using hu));have FW:=dL (dN (x:=x) mQ);have afn:=dL Uf;clear hal mQ Uf hq7 ug;go_wp2_with fail;rw [<-afn.o,<-FW.o];refine afm.o.mono ?_;rintro e w8 ⟨F',rfl,hd,st⟩;have HD:=dL hd;have r8:=dL ((iP.below _ RQ.o.b).trans st);have HM8:=dL (RQ.o.m_.kp st.keeps (λhF=>by have h1:=Tt.o m hF;have h2:=UN.o;omega));clear hd st c0 c1' c2 c3 c4 c5 c6 c7 c8 c9 jX a3 a4;have a4:=HM8.o.cell 4;simp at a4;go_wp2_with fail;rw [rounds_succ];go_wp2_with fail;refine wp_loop_rounds 1 ?_;rw [rounds_succ];go_wp2_with fail;go_ret2;exact ⟨F',rfl,HD.o,r8.o⟩
theorem PS {F:BS} {D who:Nat} (h:fE w F D who [ez] []):
  Calls prog 199 #[Qp D,.string (bs (vI [[120]]))] w λe w'=>∃F',e=.returned (.tuple #[(),qn])/\fE w' F' D who [ez] [[120]]/\iP F F' w w':=by
 have hbd:=h.bnd;have Tt:=dL hbd;have RR:dK (∀w',Below w w w'->Calls prog 124 #[Qp D] w' λe w2=>∃g c,e=.returned (.slice (some ⟨g,0,none⟩) 1 c)/\dQ w2 w'.heap.size 1 (.slice (some ⟨g,0,none⟩) 1 c) 1 [.string (bs kX)]/\Below w'.heap.size w' w2):=dL (λw' hb=>PG (h.later hb));have ug:dK (∀w' gp cp,Below w w w'->gp < w'.heap.size->w.heap.size<=gp->w'.cell? ⟨gp,0,none⟩=some (.string (bs [120]))->Calls prog 251 #[Qp D,.slice (some ⟨gp,0,none⟩) 1 cp,()] w' λe w2=>∃F',e=.returned qn/\fE w2 F' D who [ez] [[120]]/\iP F F' w' w2):=dL (λw' gp cp hb hlt hge hc=>Wv (h.later hb) gp cp hlt (λhF=>by have:=hbd gp hF;omega) hc);have H:=dL h;obtain ⟨rb,rc,o,p,s,pb,kb,nm,FL,FM,hi,rfl⟩:=h;have HI:=dL hi;clear hi hbd;have yf:=dL (aaG [[120]] (by simp) (λx hx=>by rw [aW.1 hx];decide) w);obtain ⟨j0,hj,hy0,hy1,hy2⟩:=info_parts Ik.info9s;have HJ:=dL hj;have z7:=dL hy0;have Cv:=dL hy1;have Cw:=dL hy2;clear hj hy0 hy1 hy2;go_enter func199,ntmps199;go_wp2_with fail;refine yf.o.mono ?_;rintro e w1 ⟨v,rfl,hv,Yk,hb⟩;obtain ⟨b1,off1,c1,x1,hx1,rfl,dV,hc1,hk1,hk2⟩:∃b off c x,[[120]]=[x]/\v=.slice (some ⟨b,off,none⟩) 1 c/\b < w1.heap.size/\w1.cell? ⟨b,off,none⟩=some (.string (bs x))/\1<=c/\c<=9223372036854775807:=by
  rcases hv with ⟨h,_⟩|h
  ·cases h
  ·exact h
 cases hx1;clear hv hk1 hk2;have Ht:=dL hc1;clear hc1 Yk;have hal:=dH w1 (.cells #[(3:Int),(),(),(),.slice (some ⟨b1,off1,none⟩) 1 c1] 212);have hm2:=Blk.new w1 212 #[(3:Int),(),(),(),.slice (some ⟨b1,off1,none⟩) 1 c1];obtain ⟨w2,eV⟩:=dG (w1.alloc (.cells #[(3:Int),(),(),(),.slice (some ⟨b1,off1,none⟩) 1 c1] 212));obtain ⟨m,hm⟩:=dG w1.heap.size;rw [<-eV] at hal hm2;rw [<-hm] at hm2;have fD:=hb.trans (hal.mono hb.size);have Cf:dK (jV w w2 m #[(3:Int),(),(),(),.slice (some ⟨b1,off1,none⟩) 1 c1] D who rb rc o p s pb kb nm FL FM [ez] []):=dL ⟨fD,hm2,HI.o.later fD⟩;have rH:=dL eV;have HM:=dL hm;have Y2:=dL hal;have Q7:dK (Below w1 w1 w2.drew):=dL hal.drew;have UN:dK (w.heap.size<=m):=dL (by rw [hm];exact hb.size);clear hal hm2 eV hm fD hb yf;go_upto_region 4 with (fail);rw [<-HM.o,<-rH.o];have uD:dK (jV w w2.drew m #[(3:Int),(),(),(),.slice (some ⟨b1,off1,none⟩) 1 c1] D who rb rc o p s pb kb nm FL FM [ez] []):=dL (Cf.o.later (aC _ w2).drew);go_wp2_with fail;go_region_held3 (λw'=>w'.cell? (Qc D 2)=Qp o/\w'.cell? m=(3:Int)/\w'.cell? (Qc m 1)=()/\w'.cell? (Qc m 2)=()/\w'.cell? (Qc m 3)=()/\w'.cell? (Qc m 4)=some (.slice (some (Qc b1 off1)) 1 c1))
  (with_reducible first|exact jV.cells qM.o|exact jV.cells vW.o|exact jV.cells ze.o|exact jV.cells uD.o|exact jV.cells Cf.o)
  (first
   |(go_at_call 127;refine (mI (by with_reducible first|exact uD.o.dev.log|exact vW.o.dev.log)).mono ?_;rintro e w3 ⟨v',rfl,ho,hn,hb⟩;have ze:dK (jV w w3 m #[(3:Int),(),(),(),.slice (some ⟨b1,off1,none⟩) 1 c1] D who rb rc o p s pb kb nm FL FM [ez] []):=dL (jV.later (by with_reducible first|exact vW.o|exact uD.o) hb);obtain ⟨Ao,co,rfl,hlo⟩:=xq ho;have qL:=dL hlo;clear ho hn hlo;(have QV:=dL (jm (by with_reducible first|exact UO.o|exact Q7.o) hb));clear hb)
   |(go_at_call 173;refine (lR (by with_reducible first|exact uD.o.dev.log|exact ze.o.dev.log)).mono ?_;rintro e w4 ⟨v',rfl,ho,hn,hb⟩;have vW:dK (jV w w4 m #[(3:Int),(),(),(),.slice (some ⟨b1,off1,none⟩) 1 c1] D who rb rc o p s pb kb nm FL FM [ez] []):=dL (jV.later (by with_reducible first|exact ze.o|exact uD.o) hb);obtain rfl:=hn rfl;clear ho hn;(try have rI:=dL (qL.o.later hb));(have UO:=dL (jm (by with_reducible first|exact QV.o|exact Q7.o) hb));clear hb)
   |(go_at_call 273;(first|refine (pn 3 (by decide) _ _ _ _ _ _ _).mono ?_|refine (pn 3 (by decide) _ _ _ _ _ _ _).mono ?_);rintro e w5 ⟨rfl,hb⟩;have qM:dK (jV w w5 m #[(3:Int),(),(),(),.slice (some ⟨b1,off1,none⟩) 1 c1] D who rb rc o p s pb kb nm FL FM [ez] []):=dL (jV.later (by with_reducible first|exact vW.o|exact ze.o) hb);(have Y4:=dL (jm (by with_reducible first|exact UO.o|exact QV.o) hb));clear hb))
 all_goals
  clear uD Cf;go_wp2_with fail;refine wp_loop_rounds 1 ?_;rw [rounds_succ];have a3:=qM.o.m_.cell 3;have a4:=qM.o.m_.cell 4;simp at a3 a4;go_wp2_with fail;refine wp_loop_rounds 1 ?_;rw [rounds_succ];go_wp2_with fail;refine wp_loop_rounds 2 ?_;rw [rounds_succ];have e0:=(aM (a:=⟨b1,off1,none⟩) (Y4.o.block b1 dV)).trans Ht.o;go_wp2_with fail;refine (RR.o _ qM.o.b).mono ?_;rintro e w6 ⟨g6,c6,rfl,ho,hb⟩;have RP:=dL (qM.o.later hb);have HLs:=dL (fm.ls (xs:=[kX]) ho (λe=>by cases e) (by simp));clear ho hb e0 qM;go_wp2_with fail;refine (Pt.key_c [120] (by decide) _).mono ?_;rw [JJ];rintro e w7 ⟨rfl,hb⟩;have RQ:=dL (RP.o.later hb);have QW:=dL (at_yes (HLs.o.later hb) w7 (aC _ _));clear hb RP HLs;go_wp2_with fail;refine QW.o.mono ?_;rintro e w8 ⟨rfl,hb⟩;have ZF:=RQ.o.later hb;have hal:=dH w8 (.cells #[.string (bs [120])] 9);have yz:=Blk.new w8 9 #[.string (bs [120])];obtain ⟨w9,IY⟩:=dG (w8.alloc (.cells #[.string (bs [120])] 9));obtain ⟨q9,Ck⟩:=dG w8.heap.size;rw [<-IY] at hal yz;rw [<-Ck] at yz;have HH9:=dL (ZF.later hal);have afo:=dL (ug.o w9 q9 1 HH9.o.b yz.lt (by rw [Ck];exact ZF.b.size) (yz.cell 0));have HW9:=dL IY;have afp:=dL Ck;clear hb ZF hal yz IY Ck QW ug RQ;go_wp2_with fail;rw [<-afp.o,<-HW9.o];refine afo.o.mono ?_;rintro e Vh ⟨F',rfl,hd,st⟩;have HD:=dL hd;have r8:=dL ((iP.below _ HH9.o.b).trans st);clear hd st a3 a4;go_wp2_with fail;rw [rounds_succ];go_wp2_with fail;go_ret2;exact ⟨F',rfl,HD.o,r8.o⟩
end
end Go.Proofs.YtgdaahffmcfhpaaGreatDoor
