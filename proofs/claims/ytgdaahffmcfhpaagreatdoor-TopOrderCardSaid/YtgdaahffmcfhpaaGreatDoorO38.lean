/- Lemmas on the way: Aw Ba Bb Bc Bd Be. -/
import Derived.Test.YtgdaahffmcfhpaaGreatDoorO37
set_option maxRecDepth 100000
set_option maxHeartbeats 8000000
namespace Go.Proofs.YtgdaahffmcfhpaaGreatDoor
open aA
open Tryz
section
open Go.RowKit
attribute [local go_sem] dR dO dS dP
theorem JA:(prog.info? 212).map (λi=>(i.zero,i.size,i.bytes))=some (some (.agg #[qn,(),(),(),()]),5,104):=by kernel_rfl
theorem Src.msg {w:World} {g c:Nat} {u0 u1 u2 u3 u4:Value} (h:Blk w g 212 #[u0,u1,u2,u3,u4]) (h1:∀u∈[u0,u1,u2,u3,u4],u.oneCell'=true):Src prog 5 357 (.slice (some g) 1 c) 1 [u0,u1,u2,u3,u4] w:=
 Src.ofSlice w underlying357 ⟨g,0,none⟩ 1 c [u0,u1,u2,u3,u4] rfl (λj u hu=>by
  have:(Addr.mk g 0 none).add j= ⟨g,j,none⟩:=by unfold Addr.add;split <;> simp_all
  rw [this,h.cell];simpa using hu) h1
theorem aaH (A:Option Addr) (c:Nat) (f:Value) (w:World):Calls prog 402 #[Qq A 0 c,qn,qn,f] w λe w'=>e=.returned (.tuple #[])/\w=w':=by
 go_enter func402,ntmps402;go_wp2_with fail;refine wp_loop_rounds 1 ?_;rw [rounds_succ];go_wp2_with fail;go_end0;exact ⟨rfl,rfl⟩
theorem Wb (A:Option Addr) (c:Nat) (f:Value) (w:World):Calls prog 382 #[Qq A 0 c,qn,f] w λe w'=>e=.returned (.tuple #[])/\w=w':=by
 go_enter func382,ntmps382;go_wp2_with fail;refine wp_loop_rounds 1 ?_;rw [rounds_succ];go_wp2_with fail;refine (aaH _ _ _ _).mono ?_;rintro e w' ⟨rfl,rfl⟩;go_wp2_with fail;refine wp_loop_rounds 1 ?_;rw [rounds_succ];go_wp2_with fail;go_end0;exact ⟨rfl,rfl⟩
theorem CA (A:Option Addr) (c:Nat) (f:Value) (w:World):Calls prog 334 #[Qq A 0 c,f] w λe w'=>e=.returned (.tuple #[])/\w=w':=by
 go_enter func334,ntmps334;go_wp2_with fail;refine (Wb _ _ _ _).mono ?_;rintro e w' ⟨rfl,rfl⟩;go_wp2_with fail;go_end0;exact ⟨rfl,rfl⟩
theorem aaI (A:Option Addr) (c:Nat) (f:Value) (w:World):Calls prog 402 #[Qq A 1 c,qn,yh,f] w λe w'=>e=.returned (.tuple #[])/\w=w':=by
 go_enter func402,ntmps402;go_wp2_with fail;refine wp_loop_rounds 1 ?_;rw [rounds_succ];go_wp2_with fail;go_end0;exact ⟨rfl,rfl⟩
theorem Wc (A:Option Addr) (c:Nat) (f:Value) (w:World):Calls prog 382 #[Qq A 1 c,yh,f] w λe w'=>e=.returned (.tuple #[])/\w=w':=by
 go_enter func382,ntmps382;go_wp2_with fail;refine wp_loop_rounds 1 ?_;rw [rounds_succ];go_wp2_with fail;refine (aaI _ _ _ _).mono ?_;rintro e w' ⟨rfl,rfl⟩;go_wp2_with fail;refine wp_loop_rounds 1 ?_;rw [rounds_succ];go_wp2_with fail;go_end0;exact ⟨rfl,rfl⟩
theorem TA (A:Option Addr) (c:Nat) (f:Value) (w:World):Calls prog 334 #[Qq A 1 c,f] w λe w'=>e=.returned (.tuple #[])/\w=w':=by
 go_enter func334,ntmps334;go_wp2_with fail;refine (Wc _ _ _ _).mono ?_;rintro e w' ⟨rfl,rfl⟩;go_wp2_with fail;go_end0;exact ⟨rfl,rfl⟩
theorem pn (k:Int) (hk:k≠1) (u1 u2 u3 u4 so sh:Value) (w:World):Calls prog 273 #[.agg #[k,u1,u2,u3,u4],so,sh] w (dM w (.slice none 0 0)):=by
 have dV:=dH w (.cells #[k,u1,u2,u3,u4] 212);have eR:=dL dV;have d:(k ==1)=false:=by simp [hk]
 clear dV hk;go_enter func273,ntmps273;go_wp2_with fail;go_ret;exact ⟨rfl,eR.o⟩
structure vn (w W:World) (q:Nat) (A1 A2:Option Addr) (n1 c1 n2 c2:Nat):Prop where
 b:Below w w W
 q_:Blk W q 212 #[yh,Qq A1 n1 c1,Qq A2 n2 c2,(),()]
theorem vn.later {w W W':World} {q:Nat} {A1 A2:Option Addr} {n1 c1 n2 c2:Nat} (h:vn w W q A1 A2 n1 c1 n2 c2) (hb:Below W W W'):vn w W' q A1 A2 n1 c1 n2 c2:=⟨h.b.trans (hb.mono h.b.size),h.q_.below hb h.q_.lt⟩
theorem vn.cell {w W:World} {q:Nat} {A1 A2:Option Addr} {n1 c1 n2 c2:Nat} (h:vn w W q A1 A2 n1 c1 n2 c2):W.cell? (Qc q 2)=Qq A2 n2 c2:=h.q_.cell 2
theorem EN (A1 A2:Option Addr) (n1 c1 n2 c2:Nat) (Ao:Option Addr) (no co:Nat) (w:World) (hS:en w 333 #[Qq Ao no co,Qq A1 n1 c1] (.slice none 0 0)):
  Calls prog 273 #[.agg #[yh,Qq A1 n1 c1,Qq A2 n2 c2,(),()],Qq Ao no co,()] w (dM w (.slice none 0 0)):=by
 have hq1:=Blk.new w 212 #[yh,Qq A1 n1 c1,Qq A2 n2 c2,(),()];have dV:=dH w (.cells #[yh,Qq A1 n1 c1,Qq A2 n2 c2,(),()] 212);obtain ⟨w1,hw1⟩:=dG (w.alloc (.cells #[yh,Qq A1 n1 c1,Qq A2 n2 c2,(),()] 212));rw [<-hw1] at hq1 dV;obtain ⟨q,hq⟩:=dG w.heap.size;rw [<-hq] at hq1;have nF:dK (vn w w1 q A1 A2 n1 c1 n2 c2):=dL ⟨dV,hq1⟩;have HW:=dL hw1;have HQ:=dL hq;have HS:=dL hS;clear hq1 dV hw1 hq hS;go_enter func273,ntmps273;go_upto_region 1 with (fail);rw [<-HW.o,<-HQ.o];have a0:=nF.o.q_.cell 0;have a1:=nF.o.q_.cell 1;simp at a0 a1;go_wp2_with fail;refine (HS.o _ nF.o.b).mono ?_;rintro e w3 ⟨rfl,hb⟩;have rC:=dL (nF.o.later hb);clear hb a0 a1 nF;go_wp2_with fail;refine (CA _ _ _ _).mono ?_;rintro e w3 ⟨rfl,rfl⟩;go_wp2_with fail;refine wp_loop_rounds 1 ?_;rw [rounds_succ];go_wp2_with fail;go_ret;exact ⟨rfl,rC.o.b⟩
theorem Ou (A1 A2:Option Addr) (n1 c1 n2 c2:Nat) (Ao:Option Addr) (no co:Nat) (p:List UInt8) (hp:p.length<=256) (b off ch:Nat) (w:World) (hS:en w 333 #[Qq Ao no co,Qq A1 n1 c1] (.slice none 0 0)) (hlt:b < w.heap.size) (hc:w.cell? (Qc b off)=p) (hK:en w 191 #[Qq A2 n2 c2,((Pt.sumL p).take 32)] (.bool false)):
  Calls prog 273 #[.agg #[yh,Qq A1 n1 c1,Qq A2 n2 c2,(),()],Qq Ao no co,.slice (some ⟨b,off,none⟩) 1 ch] w (dM w (.slice none 0 0)):=by
 have hq1:=Blk.new w 212 #[yh,Qq A1 n1 c1,Qq A2 n2 c2,(),()];have dV:=dH w (.cells #[yh,Qq A1 n1 c1,Qq A2 n2 c2,(),()] 212);obtain ⟨w1,hw1⟩:=dG (w.alloc (.cells #[yh,Qq A1 n1 c1,Qq A2 n2 c2,(),()] 212));rw [<-hw1] at hq1 dV;obtain ⟨q,hq⟩:=dG w.heap.size;rw [<-hq] at hq1;have nF:dK (vn w w1 q A1 A2 n1 c1 n2 c2):=dL ⟨dV,hq1⟩;have HW:=dL hw1;have HQ:=dL hq;have HS:=dL hS;clear hq1 dV hw1 hq hS;have HC:=dL hc;have HK:=dL hK;have Hw:=dL (λw=>Pt.key_c p (by omega) w);clear hc hK hp;go_enter func273,ntmps273;go_upto_region 1 with (fail);rw [<-HW.o,<-HQ.o];have a0:=nF.o.q_.cell 0;have a1:=nF.o.q_.cell 1;simp at a0 a1;go_wp2_with fail;refine (HS.o _ nF.o.b).mono ?_;rintro e w3 ⟨rfl,hb⟩;have rC:=dL (nF.o.later hb);clear hb a0 a1 nF;go_wp2_with fail;refine (CA _ _ _ _).mono ?_;rintro e w3 ⟨rfl,rfl⟩;go_wp2_with fail;refine wp_loop_rounds 2 ?_;rw [rounds_succ];have c0:=(aM (a:=⟨b,off,none⟩) (rC.o.b.block b hlt)).trans HC.o;have qC:dK (vn w w3.drew q A1 A2 n1 c1 n2 c2):=dL (rC.o.later (aC _ w3).drew);go_wp2_with fail;go_region_held3 (λw'=>w'.cell? (Qc q 2)=Qq A2 n2 c2)
  (with_reducible first|exact vn.cell FX.o|exact vn.cell uh.o|exact vn.cell qC.o|exact vn.cell rC.o)
  (first
   |(go_at_call 179;refine (Hw.o _).mono ?_;rintro e w4 ⟨rfl,hb⟩;have uh:=dL (qC.o.later hb);have qZ:=dL ((aC _ w3).drew.trans hb);clear hb)
   |(go_at_call 191;refine (HK.o _ uh.o.b).mono ?_;rintro e w5 ⟨rfl,hb⟩;have FX:=dL (uh.o.later hb);have JZ:=dL ((qZ.o).trans (hb.mono qZ.o.size));clear hb))
 clear c0 uh qZ qC;go_wp2_with fail;rw [rounds_succ];go_wp2_with fail;go_ret;exact ⟨rfl,FX.o.b⟩
theorem Ov (A1 A2:Option Addr) (n1 c1 n2 c2:Nat) (Ao:Option Addr) (no co:Nat) (p:List UInt8) (hp:p.length<=256) (b off ch:Nat) (w:World) (hS:en w 333 #[Qq Ao no co,Qq A1 n1 c1] (.slice none 0 0)) (hlt:b < w.heap.size) (hc:w.cell? (Qc b off)=p) (hK:en w 191 #[Qq A2 n2 c2,((Pt.sumL p).take 32)] (.bool true)):
  Calls prog 273 #[.agg #[yh,Qq A1 n1 c1,Qq A2 n2 c2,(),()],Qq Ao no co,.slice (some ⟨b,off,none⟩) 1 ch] w λe w'=>∃g c v,e=.returned (.slice (some ⟨g,0,none⟩) 1 c)/\dQ w' w 5 (.slice (some ⟨g,0,none⟩) 1 c) 1 [.int .i64 3,.slice none 0 0,.slice none 0 0,.slice none 0 0,v]/\oI w' v [p]/\jC w v/\Below w w w':=by
 have hq1:=Blk.new w 212 #[yh,Qq A1 n1 c1,Qq A2 n2 c2,(),()];have dV:=dH w (.cells #[yh,Qq A1 n1 c1,Qq A2 n2 c2,(),()] 212);obtain ⟨w1,hw1⟩:=dG (w.alloc (.cells #[yh,Qq A1 n1 c1,Qq A2 n2 c2,(),()] 212));rw [<-hw1] at hq1 dV;obtain ⟨q,hq⟩:=dG w.heap.size;rw [<-hq] at hq1;have nF:dK (vn w w1 q A1 A2 n1 c1 n2 c2):=dL ⟨dV,hq1⟩;have HW:=dL hw1;have HQ:=dL hq;have HS:=dL hS;clear hq1 dV hw1 hq hS;have HC:=dL hc;have HK:=dL hK;have Hw:=dL (λw=>Pt.key_c p (by omega) w);clear hc hK hp;obtain ⟨i0,hi,hz0,hz1,hz2⟩:=info_parts JA;have HI:=dL hi;have gx:=dL hz0;have gJ:=dL hz1;have gT:=dL hz2;clear hi hz0 hz1 hz2;obtain ⟨j0,hj,hy0,hy1,hy2⟩:=info_parts Ik.info9s;have HJ:=dL hj;have z7:=dL hy0;have Cv:=dL hy1;have Cw:=dL hy2;clear hj hy0 hy1 hy2;go_enter func273,ntmps273;go_upto_region 1 with (fail);rw [<-HW.o,<-HQ.o];have a0:=nF.o.q_.cell 0;have a1:=nF.o.q_.cell 1;simp at a0 a1;go_wp2_with fail;refine (HS.o _ nF.o.b).mono ?_;rintro e w3 ⟨rfl,hb⟩;have rC:=dL (nF.o.later hb);clear hb a0 a1 nF;go_wp2_with fail;refine (CA _ _ _ _).mono ?_;rintro e w3 ⟨rfl,rfl⟩;go_wp2_with fail;refine wp_loop_rounds 2 ?_;rw [rounds_succ];have c0:=(aM (a:=⟨b,off,none⟩) (rC.o.b.block b hlt)).trans HC.o;have qC:dK (vn w w3.drew q A1 A2 n1 c1 n2 c2):=dL (rC.o.later (aC _ w3).drew);go_wp2_with fail;go_region_held3 (λw'=>w'.cell? (Qc q 2)=Qq A2 n2 c2)
  (with_reducible first|exact vn.cell FX.o|exact vn.cell uh.o|exact vn.cell qC.o|exact vn.cell rC.o)
  (first
   |(go_at_call 179;refine (Hw.o _).mono ?_;rintro e w4 ⟨rfl,hb⟩;have uh:=dL (qC.o.later hb);have qZ:=dL ((aC _ w3).drew.trans hb);clear hb)
   |(go_at_call 191;refine (HK.o _ uh.o.b).mono ?_;rintro e w5 ⟨rfl,hb⟩;have FX:=dL (uh.o.later hb);have JZ:=dL ((qZ.o).trans (hb.mono qZ.o.size));clear hb))
 clear c0 uh qZ qC;go_wp2_with (at_builtin;refine de _ rfl (.tmp 49) (.tmp 51) 99 99 rfl 9 j0 (.string ⟨#[]⟩) 1 underlying99 HJ.o z7.o Cv.o rfl (by decide) rfl _ rfl 1 (by decide) [.string (bs p)] (Src.one underlying99 (by simp [go_sem]) rfl) (by decide) (by rw [Cw.o];decide) ?_)
 intro Qw w6 hown jr;have acj:Below w5 w5 w6:=((aC w5 w5).alloc (aB _) _).trans (jr.mono (by simp));obtain ⟨g1,hg1⟩:=dG (w5.heap.size+1);rw [<-hg1] at hown;have IA:=dL (dQ.mono (B':=w.heap.size) hown (by have:=FX.o.b.size;omega));have HI6:=dL (FX.o.later acj);have tq:=dL hg1;clear hown jr acj hg1 FX JZ rC;rw [<-tq.o];go_wp2_with fail;rw [rounds_succ];have JT:dK (Blk (w6.alloc (.cells #[(3:Int),(),(),(),Qs g1 1 Qw] 212)) w6 212 #[(3:Int),(),(),(),Qs g1 1 Qw]):=dL (Blk.new w6 212 _);have Qe:dK (Below w6 w6 (w6.alloc (.cells #[(3:Int),(),(),(),Qs g1 1 Qw] 212))):=dL ((aC _ w6).alloc (aB _) _);go_wp2_with (at_builtin;refine de _ rfl (.tmp 57) (.tmp 60) 357 357 rfl 212 i0 (.agg #[qn,(),(),(),()]) 5 underlying357 HI.o gx.o gJ.o rfl (by decide) rfl _ rfl 1 (by decide) [.int .i64 3,.slice none 0 0,.slice none 0 0,.slice none 0 0,.slice (some g1) 1 Qw] (Src.msg JT.o (λu hu=>by simp only [aQ,bH,or_false] at hu;rcases hu with rfl|rfl|rfl|rfl|rfl <;> rfl)) (by decide) (by rw [gT.o];decide) ?_)
 intro cap w7 hown lq;have Xn:=Qe.o.trans (lq.mono (by simp));obtain ⟨G,hG⟩:=dG (w6.heap.size+1);rw [<-hG] at hown;have HR7:=dL (dQ.mono (B':=w.heap.size) hown (by have:=HI6.o.b.size;omega));have HI7:=dL (HI6.o.later Xn);have HO7:=dL (dQ.below IA.o Xn);have HG:=dL hG;clear hown lq Xn hG HI6 IA JT Qe;rw [<-HG.o];go_wp2_with fail;go_ret;obtain ⟨g',c',e',hlt',VF,yq,k1,k2⟩:=jQ HO7.o rfl;cases e';exact ⟨G,cap,_,rfl,HR7.o,.inr ⟨g1,0,Qw,p,rfl,rfl,hlt',yq 0 _ rfl,k1,k2⟩,n9 HO7.o (aB _),HI7.o.b⟩
theorem Ow (A1 A2:Option Addr) (n1 c1 n2 c2:Nat) (Ao:Option Addr) (no co:Nat) (x:dX) (p:List UInt8) (hp:p.length<=256) (b off ch:Nat) (w:World) (hS:∀w',Below w w w'->Calls prog 333 #[Qq Ao no co,Qq A1 n1 c1] w' λe w2=>∃A c,e=.returned (.slice A 1 c)/\dQ w2 w'.heap.size 11 (.slice A 1 c) 1 (iw [x])/\Below w'.heap.size w' w2) (hlt:b < w.heap.size) (hc:w.cell? (Qc b off)=p) (hK:en w 191 #[Qq A2 n2 c2,((Pt.sumL p).take 32)] (.bool false)):
  Calls prog 273 #[.agg #[yh,Qq A1 n1 c1,Qq A2 n2 c2,(),()],Qq Ao no co,.slice (some ⟨b,off,none⟩) 1 ch] w λe w'=>∃g c v,e=.returned (.slice (some ⟨g,0,none⟩) 1 c)/\dQ w' w 5 (.slice (some ⟨g,0,none⟩) 1 c) 1 [.int .i64 2,.slice none 0 0,.slice none 0 0,v,.slice none 0 0]/\qx w' v [x]/\jC w v/\Below w w w':=by
 have hq1:=Blk.new w 212 #[yh,Qq A1 n1 c1,Qq A2 n2 c2,(),()];have dV:=dH w (.cells #[yh,Qq A1 n1 c1,Qq A2 n2 c2,(),()] 212);obtain ⟨w1,hw1⟩:=dG (w.alloc (.cells #[yh,Qq A1 n1 c1,Qq A2 n2 c2,(),()] 212));rw [<-hw1] at hq1 dV;obtain ⟨q,hq⟩:=dG w.heap.size;rw [<-hq] at hq1;have nF:dK (vn w w1 q A1 A2 n1 c1 n2 c2):=dL ⟨dV,hq1⟩;have HW:=dL hw1;have HQ:=dL hq;have HS:=dL hS;clear hq1 dV hw1 hq hS;have HC:=dL hc;have HK:=dL hK;have Hw:=dL (λw=>Pt.key_c p (by omega) w);clear hc hK hp;obtain ⟨i0,hi,hz0,hz1,hz2⟩:=info_parts JA;have HI:=dL hi;have gx:=dL hz0;have gJ:=dL hz1;have gT:=dL hz2;clear hi hz0 hz1 hz2;go_enter func273,ntmps273;go_upto_region 1 with (fail);rw [<-HW.o,<-HQ.o];have a0:=nF.o.q_.cell 0;have a1:=nF.o.q_.cell 1;simp at a0 a1;go_wp2_with fail;refine (HS.o _ nF.o.b).mono ?_;rintro e w2 ⟨A,c,rfl,ho,hb⟩;have sr:=dL (nF.o.later hb);have zW:=dL (dQ.mono (B':=w.heap.size) ho nF.o.b.size);clear ho hb a0 a1 nF;go_wp2_with fail;refine (TA _ _ _ _).mono ?_;rintro e w2 ⟨rfl,rfl⟩;have CP:1<=c:=by
  obtain ⟨g',c',e',-,-,-,k1,k2⟩:=jQ zW.o rfl;cases e';exact k1
 obtain ⟨g1,rfl⟩:∃g1,A=some ⟨g1,0,none⟩:=by
  obtain ⟨g',c',e',-,-,-,k1,k2⟩:=jQ zW.o rfl;cases e';exact ⟨_,rfl⟩
 have CQ:dK (Blk (w2.alloc (.cells #[(2:Int),(),(),.slice (some ⟨g1,0,none⟩) 1 c,()] 212)) w2 212 #[(2:Int),(),(),.slice (some ⟨g1,0,none⟩) 1 c,()]):=dL (Blk.new w2 212 _);have Qe:dK (Below w2 w2 (w2.alloc (.cells #[(2:Int),(),(),.slice (some ⟨g1,0,none⟩) 1 c,()] 212))):=dL ((aC _ w2).alloc (aB _) _);go_wp2_with (at_builtin;refine de _ rfl (.tmp 24) (.tmp 31) 357 357 rfl 212 i0 (.agg #[qn,(),(),(),()]) 5 underlying357 HI.o gx.o gJ.o rfl (by decide) rfl _ rfl 1 (by decide) [.int .i64 2,.slice none 0 0,.slice none 0 0,.slice (some ⟨g1,0,none⟩) 1 c,.slice none 0 0] (Src.msg CQ.o (λu hu=>by simp only [aQ,bH,or_false] at hu;rcases hu with rfl|rfl|rfl|rfl|rfl <;> rfl)) (by decide) (by rw [gT.o];decide) ?_)
 intro cap w3 hown dn;have vX:=Qe.o.trans (dn.mono (by simp));obtain ⟨G,hG⟩:=dG (w2.heap.size+1);rw [<-hG] at hown;have XQ:=dL (dQ.mono (B':=w.heap.size) hown (by have:=sr.o.b.size;omega));have rC:=dL (sr.o.later vX);have qL:=dL (dQ.below zW.o vX);have HG:=dL hG;clear hown dn vX hG sr zW CQ Qe;rw [<-HG.o];go_wp2_with fail;refine wp_loop_rounds 2 ?_;rw [rounds_succ];have c0:=(aM (a:=⟨b,off,none⟩) (rC.o.b.block b hlt)).trans HC.o;have qC:dK (vn w w3.drew q A1 A2 n1 c1 n2 c2):=dL (rC.o.later (aC _ w3).drew);go_wp2_with fail;go_region_held3 (λw'=>w'.cell? (Qc q 2)=Qq A2 n2 c2)
  (with_reducible first|exact vn.cell FX.o|exact vn.cell uh.o|exact vn.cell qC.o|exact vn.cell rC.o)
  (first
   |(go_at_call 179;refine (Hw.o _).mono ?_;rintro e w4 ⟨rfl,hb⟩;have uh:=dL (qC.o.later hb);have qZ:=dL ((aC _ w3).drew.trans hb);clear hb)
   |(go_at_call 191;refine (HK.o _ uh.o.b).mono ?_;rintro e w5 ⟨rfl,hb⟩;have FX:=dL (uh.o.later hb);have JZ:=dL ((qZ.o).trans (hb.mono qZ.o.size));clear hb))
 clear c0 uh qZ qC;go_wp2_with fail;have XR:=dL (dQ.below XQ.o JZ.o);have sn:=dL (dQ.below qL.o JZ.o);rw [rounds_succ];go_wp2_with fail;go_ret;obtain ⟨g',c',e',hlt',VF,yq,k1,k2⟩:=jQ sn.o rfl;cases e';exact ⟨G,cap,_,rfl,XR.o,.inr ⟨g1,0,c,x,rfl,rfl,hlt',λj u hu=>yq j u (by simpa [iw] using hu),k1,k2⟩,n9 sn.o (aB _),FX.o.b⟩
end
section
open Go.RowKit
attribute [local go_sem] dR dO dS dP
variable {w:World} {b:Nat}
theorem Wd (h:w.heap[b]? =some (.map #[] 0)) (k:List UInt8) (v:Value):
  ∃w1,(Instr.mapUpdate 225 (.map (some b)) (.string (bs k)) v).run prog w=.ok () w1/\w1.heap[b]? =some (.map #[{ key:=.string (bs k),val:=v,born:=0 }] 1)/\w.grownBy w1 (some b)/\w1.heap.size=w.heap.size:=by
 obtain ⟨w1,hr,dV,hg1,hs1⟩:=Ms.set_obj (P:=prog) (.map #[{ key:=.string (bs k),val:=v,born:=0 }] 1) h;refine ⟨w1,?_,dV,hg1,hs1⟩;have mS:=Ms.finding xe k w [];have hck:=xe.check false k w;simp only [List.map_nil,Ms.place,Option.map_none] at mS;have e:(#[]:Array MapEntry).push { key:=.string (bs k),val:=v,born:=0 }=#[{ key:=.string (bs k),val:=v,born:=0 }]:=rfl;unfold Ms.sk at mS hck;simp only [Instr.mapUpdate,Sem.run_bind,run_underlying xe.map_,Go.MapKept.run_getObj_map h,Result.andThen_ok,hck,mS,e,aV,hr]
def vJ (w:World) (b:Nat) (k:List UInt8) (v:Value):Prop:=w.heap[b]? =some (.map #[{ key:=.string (bs k),val:=v,born:=0 }] 1)
variable {k:List UInt8} {v:Value}
theorem vJ.lt (h:vJ w b k v):b < w.heap.size:=gh h
theorem vJ.below{w':World} (h:vJ w b k v) (hb:Below w w w'):vJ w' b k v:=(hb.block b h.lt).trans h
theorem vJ.look {w:World} {b:Nat} {k:List UInt8} {v:Value} (h:vJ w b k v):(Instr.lookup 225 (.map (some b)) (.string (bs k)) false).run prog w=.ok v w:=by
 have hF:Ms.MapF Ms.sk w b (λk'=>Ms.get [(k,v,0)] k'):=⟨[(k,v,0)],1,h,by simp,by simp,λ_=>rfl⟩;have:=hF.look xe k;simpa [Ms.get,Ms.place,Ms.sk] using this
theorem vJ.e (h:vJ w b k v):Ik.MapE w b [(k,v)]:=Ik.MapE.one h
section
variable (w:World) {ops:Array Oper} {rest:List Oper} {o:Oper} {a:Act} {Q:Exit->Act->World->Prop}
theorem zP (hg:o.guard=none) (m:Operand) (mt kt et:TypeId) (UG:prog.underlying mt=some (.map kt et)) (hop:o.op=Op.range mt m) (b:Nat) (es:List Ik.En) (hm:a.eval m=.map (some b)) (hown:Ik.MapE w b es)
  (hK:∀w',Ik.RngE w' b w es es->Below w w w'->w'.heap.size=w.heap.size+1->wpList prog ops Q rest (a.put o.dst (.pointer (some w))) w'):
  wpList prog ops Q (o :: rest) a w:=by
 refine wpList_plain hg λK' BC=>?_
 obtain ⟨w',hrun,r1,r2,r3⟩:=hown.range mt kt et UG;unfold Oper.wp;simp [execOp,hop,hm,hrun,Result.andThen];exact BC _ _ (hK w' r1 r2 r3)
theorem wpList_next1 (hg:o.guard=none) (it:Operand) (hop:o.op=Op.next it false) (b r:Nat) (es:List Ik.En) (k:List UInt8) (v:Value) (hit:a.eval it=.pointer (some r)) (h:Ik.RngE w b r es [(k,v)])
  (hMore:∀w',Ik.RngE w' b r es []->w.grownBy w' (some r)->(Instr.entry (.pointer (some r))).run prog w'=.ok (.tuple #[k,v]) w'->wpList prog ops Q rest (a.put o.dst (.tuple #[true,k,v])) w'):
  wpList prog ops Q (o :: rest) a w:=by
 refine wpList_plain hg λK' BC=>?_
 unfold Oper.wp;rcases h.next (P:=prog) o.type with ⟨h0,hrun⟩| ⟨x,left',w',h0,hrun,h2,h3,h4,h5⟩
 ·cases h0
 ·have hx:x=(k,v)/\left'=[]:=by
   have:=h0.symm.eq_singleton;simpa using this
  obtain ⟨rfl,rfl⟩:=hx;simp [execOp,hop,hit,hrun,Result.andThen];exact BC _ _ (hMore w' h2 h3 h5)
theorem wpList_next0 (hg:o.guard=none) (it:Operand) (hop:o.op=Op.next it false) (b r:Nat) (es:List Ik.En) (hit:a.eval it=.pointer (some r)) (h:Ik.RngE w b r es [])
  (hDone:wpList prog ops Q rest (a.put o.dst (.tuple #[false])) w):
  wpList prog ops Q (o :: rest) a w:=by
 refine wpList_plain hg λK' BC=>?_
 unfold Oper.wp;rcases h.next (P:=prog) o.type with ⟨h0,hrun⟩| ⟨x,left',w',h0,hrun,h2,h3,h4,h5⟩
 ·simp [execOp,hop,hit,hrun,Result.andThen]
  exact BC _ _ hDone
 ·have:=h0.length_eq;simp at this
end
theorem We (v:Value) (b:Nat) (w:World) (h:vJ w b [46] v):Calls prog 187 #[.map (some b),.string (bs [46])] w (dM w (.int .i64 2)):=by
 have hE:=h.e;clear h;go_enter func187,ntmps187;go_wp2_with (at_range;refine zP _ rfl _ 225 9 3 underlying225 rfl b [([46],v)] rfl hE ?_;intro w1 Eu dV hs1)
 obtain ⟨r,hr⟩:=dG w.heap.size;have HB:=dL dV;have HR:=dL hr;have hrw:w.heap.size<=r:=by omega
 rw [<-hr] at Eu;clear dV hr hs1;rw [<-HR.o];refine wp_loop_rounds 2 ?_;rw [rounds_succ];go_wp2_with (at_next;refine wpList_next1 _ rfl _ rfl b r [([46],v)] [46] v rfl Eu ?_;intro w2 zl hg2 ME)
 have eA:=dL (HB.o.grown hg2 HB.o.size (λj hj=>by cases hj;exact hrw));clear hg2;rw [rounds_succ];go_wp2_with (at_next;refine wpList_next0 _ rfl _ rfl b r [([46],v)] rfl zl ?_)
 go_ret;exact ⟨rfl,eA.o⟩
theorem TB (k:List UInt8) (v f:Value) (b q:Nat) (w:World) (h:vJ w b k v) (hq:Boxed w q 225 (.map (some b))) (FV:q < w.heap.size):
  Calls prog 184 #[.func (.func 258) #[] #[.pointer (some ⟨q,0,none⟩)],f] w λe w'=>∃g c,e=.returned (.slice (some ⟨g,0,none⟩) 1 c)/\dQ w' w 1 (.slice (some ⟨g,0,none⟩) 1 c) 1 [.string (bs k)]/\Below w w w':=by
 have HC:=dL (Ik.collect_si q b _ w (by simp) FV hq h.e);clear h hq;go_enter func184,ntmps184;go_wp2_with fail;refine HC.o.mono ?_;rintro e w1 ⟨u,ys,rfl,hp,ho,hb⟩;obtain rfl:ys=[(k,v)]:=hp.eq_singleton;obtain ⟨g,cap,rfl,-,-,-,-,-,-⟩:=(dQ.of_row ho).form (by simp);have HO:=dL (dQ.of_row ho);have HB:=dL hb;clear hp ho hb;go_wp2_with fail;refine (WV _ _ _ _).mono ?_;rintro e w2 ⟨rfl,rfl⟩;go_wp2_with fail;go_ret;exact ⟨g,cap,rfl,HO.o,HB.o⟩
theorem TC (f:Value) (b q:Nat) (w:World) (h:w.heap[b]? =some (.map #[] 0)) (hq:Boxed w q 122 (.map (some b))) (FV:q < w.heap.size):
  Calls prog 184 #[.func (.func 260) #[] #[.pointer (some ⟨q,0,none⟩)],f] w λe w'=>∃A c,e=.returned (.slice A 0 c)/\Below w w w':=by
 have HC:=dL (Ik.collect_sb q b _ w (by simp) FV hq (Ik.MapE.nil_ h));clear h hq;go_enter func184,ntmps184;go_wp2_with fail;refine HC.o.mono ?_;rintro e w1 ⟨u,ys,rfl,hp,ho,hb⟩;obtain rfl:ys=[]:=hp.eq_nil;obtain ⟨A,cap,rfl⟩:=kg ho;have HB:=dL hb;clear hp ho hb;go_wp2_with fail;refine (WU _ _ _ _).mono ?_;rintro e w2 ⟨rfl,rfl⟩;go_wp2_with fail;go_ret;exact ⟨A,cap,rfl,HB.o⟩
theorem TD (w:World):(Instr.makeMap 122 none).run prog w=.ok (.map (some w.heap.size)) (w.alloc (.map #[] 0)):=by simp [go_sem,Instr.makeMap]
theorem TE:(prog.info? 113).map (λi=>(i.zero,i.size,i.bytes))=some (some (.agg #[qn,yj]),2,24):=by kernel_rfl
abbrev rv:Value:=.agg #[yh,.string (bs [46])]
theorem Src.rule {w:World} {g c:Nat} (h:Blk w g 113 #[yh,.string (bs [46])]):Src prog 2 52 (.slice (some g) 1 c) 1 [.int .i64 1,.string (bs [46])] w:=
 Src.ofSlice w underlying52 ⟨g,0,none⟩ 1 c [.int .i64 1,.string (bs [46])] rfl (λj u hu=>by
  have:(Addr.mk g 0 none).add j= ⟨g,j,none⟩:=by unfold Addr.add;split <;> simp_all
  rw [this,h.cell];simpa using hu) (λu hu=>by simp only [aQ,bH,or_false] at hu;rcases hu with rfl|rfl <;> rfl)
theorem LK (b off c:Nat) (w:World) (hlt:b < w.heap.size) (h0:w.cell? (Qc b off)=yh) (h1:w.cell? ⟨b,off+1,none⟩=some (.string (bs [46]))):
  Calls prog 120 #[.slice (some ⟨b,off,none⟩) 1 c] w λe w'=>∃g cap,e=.returned (.slice (some ⟨g,0,none⟩) 1 cap)/\dQ w' w 2 (.slice (some ⟨g,0,none⟩) 1 cap) 1 [.int .i64 1,.string (bs [46])]/\Below w w w':=by
 obtain ⟨i0,hi,hz0,hz1,hz2⟩:=info_parts TE;have HI:=dL hi;have gx:=dL hz0;have gJ:=dL hz1;have gT:=dL hz2;clear hi hz0 hz1 hz2;have yu:=J2 w;have hm2:=TD (w.alloc (.map #[] 0));have e0:(⟨#[46]⟩:ByteArray)=bs [46]:=rfl;have hmb:((w.alloc (.map #[] 0)).alloc (.map #[] 0)).heap[w.heap.size]? =some (.map #[] 0):=by
  rw [bM _ _ _ (by simp)];exact heap_alloc_new w _
 have UG:((w.alloc (.map #[] 0)).alloc (.map #[] 0)).heap[w.heap.size+1]? =some (.map #[] 0):=by
  have:=heap_alloc_new (w.alloc (.map #[] 0)) (.map #[] 0)
  rwa [show (w.alloc (.map #[] 0)).heap.size=w.heap.size+1 from ai _] at this
 have dY:Below w w ((w.alloc (.map #[] 0)).alloc (.map #[] 0)):=((aC _ w).alloc (aB _) _).alloc (by simp) _;obtain ⟨w2,eV⟩:=dG ((w.alloc (.map #[] 0)).alloc (.map #[] 0));obtain ⟨mt,Yi⟩:=dG (w.heap.size+1);obtain ⟨mk,Yj⟩:=dG w.heap.size;rw [<-eV] at hmb UG dY;rw [<-Yj] at hmb;rw [<-Yi] at UG;have hkt:mk≠mt:=by omega
 have hkw:w.heap.size<=mk:=by omega
 have rH:=dL eV;have HMT:=dL Yi;have HMK:=dL Yj;have c0:=(aM (a:=⟨b,off,none⟩) (dY.block b hlt)).trans h0;have c1:=(aM (a:=⟨b,off+1,none⟩) (dY.block b hlt)).trans h1;clear eV Yi Yj h0 h1;go_enter func120,ntmps120;go_upto_region 2 with (fail);rw [<-HMT.o,<-HMK.o,<-rH.o];go_wp2_with fail;refine wp_loop_rounds 2 ?_;rw [rounds_succ];have jG:=Blk.new w2 113 #[yh,.string (bs [46])];have dn:=dH w2 (.cells #[yh,.string (bs [46])] 113);obtain ⟨w3,jD⟩:=dG (w2.alloc (.cells #[yh,.string (bs [46])] 113));obtain ⟨q,iC⟩:=dG w2.heap.size;rw [<-jD] at jG dn;rw [<-iC] at jG;have ack:mk < w2.heap.size:=gh hmb;have acm:mt < w2.heap.size:=gh UG;have Xo:=(dn.block mk ack).trans hmb;have acn:=(dn.block mt acm).trans UG;have Xp:=dY.trans (dn.mono dY.size);have ZU:=C6 Xo [46];have afa:=dn.size;obtain ⟨w4,hu4,adK,hg4,hs4⟩:=Wd Xo [46] (.int .i64 1);have afb:(Instr.mapUpdate 225 (.map (some mk)) (.string (bs [46])) (.int .i64 (max 0 1))).run prog w3=.ok () w4:=hu4;have ZM:dK (vJ w4 mk [46] (.int .i64 1)):=dL adK;have Xq:=dL ((hg4.block mt (by omega) (by intro e;cases e;exact hkt rfl)).trans acn);have fI:=dL (eY Xp hg4 hkw Xp.size);have rB:=dL jD;have HQ:=dL iC;have agK:mk < w4.heap.size:=by omega
 have d0:=jG.cell 0;have d1:=jG.cell 1;simp at d0 d1;clear yu hm2 jD iC jG dn hmb UG Xo acn Xp dY adK hg4 hs4 ack acm afa hu4;go_upto_region 5 with (fail);rw [<-rB.o,<-HQ.o];clear c0 c1;go_wp2_with fail;rw [rounds_succ];clear d0 d1 ZU afb;go_wp2_with fail;refine (Ik.keys_any_si mk w4).mono ?_;rintro e w5 ⟨rfl,rfl⟩;have hq5:Boxed (w4.alloc (.cells #[.map (some mk)] 225)) w4 225 (.map (some mk)):=Boxed.new w4 225 _;have ef:=dH w4 (.cells #[.map (some mk)] 225);obtain ⟨w5,iB⟩:=dG (w4.alloc (.cells #[.map (some mk)] 225));obtain ⟨q5,Ue⟩:=dG w4.heap.size;rw [<-iB] at hq5 ef;rw [<-Ue] at hq5;have B7:=dL (ZM.o.below ef);have Xr:=dL ((ef.block mt (gh Xq.o)).trans Xq.o);have fk:=dJ fI ef;have yt:=dL (TB [46] (.int .i64 1) (.func (.func 186) #[] #[]) mk q5 w5 B7.o hq5 (by rw [iB,Ue];simp));have zX:=dL iB;have oE:=dL Ue;clear hq5 ef iB Ue ZM Xq fI;rw [<-zX.o,<-oE.o];go_wp2_with fail;refine yt.o.mono ?_;rintro e w6 ⟨g,c6,rfl,ho,hb⟩;obtain ⟨k0,k1,k2,k3,k4⟩:=EI ho;have HM6:=dL (B7.o.below hb);have Xs:=dL ((hb.block mt (gh Xr.o)).trans Xr.o);have jt:=dJ fk hb;clear ho hb yt B7 Xr fk k1 k2 k3 k4;go_wp2_with fail;refine wp_loop_rounds 2 ?_;rw [rounds_succ];have VX:=HM6.o.look;have afc:(Instr.lookup 225 (.map (some mk)) (.string (bs [46])) false).run prog w6.drew=.ok (.int .i64 1) w6.drew:=(HM6.o.below (aC _ w6).drew).look;go_wp2_with fail;have yZ:=dL (HM6.o.below (aC _ w6).drew);have hwd:dK (Below w6 w6 w6.drew):=dL (aC _ w6).drew;go_region_held3 (λ_=>True) (trivial)
  (first|(go_at_call 187;refine (We (.int .i64 1) mk _ yZ.o).mono ?_;rintro e w7 ⟨rfl,hb⟩;have HM7:=dL (yZ.o.below hb);have lZ:=dJ hwd hb;have Xt:=HM7.o.look;clear hb))
 all_goals
  clear VX afc k0;have MT:dK (Blk (w7.alloc (.cells #[yh,.string (bs [46])] 113)) w7 113 #[yh,.string (bs [46])]):=dL (Blk.new w7 113 _);have Qe:dK (Below w7 w7 (w7.alloc (.cells #[yh,.string (bs [46])] 113))):=dL ((aC _ w7).alloc (aB _) _);go_wp2_with (at_builtin;refine de _ rfl (.tmp 56) (.tmp 62) 52 52 rfl 113 i0 (.agg #[qn,yj]) 2 underlying52 HI.o gx.o gJ.o rfl (by decide) rfl _ rfl 1 (by decide) [.int .i64 1,.string (bs [46])] (Src.rule MT.o) (by decide) (by rw [gT.o];decide) ?_)
  intro MK w8 hown uk;have vV:=Qe.o.trans (uk.mono (by simp));have UH:=jt.o.trans (lZ.o.mono jt.o.size);have aco:=UH.trans (vV.mono UH.size);obtain ⟨G,hG⟩:=dG (w7.heap.size+1);rw [<-hG] at hown;have UA:=dL (dQ.mono (B':=w.heap.size) hown (by have:=UH.size;omega));have Xu:=dL (((lZ.o.trans (vV.mono lZ.o.size)).block mt (gh Xs.o)).trans Xs.o);have rD:=dL aco;have HG:=dL hG;clear hown uk vV UH aco hG Xt HM7 yZ hwd Xs jt lZ MT Qe;rw [<-HG.o];go_wp2_with fail;rw [rounds_succ];go_wp2_with fail;refine (Ik.keys_any_sb mt w8).mono ?_;rintro e w9 ⟨rfl,rfl⟩;have yz:Boxed (w8.alloc (.cells #[.map (some mt)] 122)) w8 122 (.map (some mt)):=Boxed.new w8 122 _;have BA:=dH w8 (.cells #[.map (some mt)] 122);obtain ⟨w9,IY⟩:=dG (w8.alloc (.cells #[.map (some mt)] 122));obtain ⟨q9,Ck⟩:=dG w8.heap.size;rw [<-IY] at yz BA;rw [<-Ck] at yz;have Z8:=dL (TC (.func (.func 186) #[] #[]) mt q9 w9 ((BA.block mt (gh Xu.o)).trans Xu.o) yz (by rw [IY,Ck];simp));have Qi:=dJ rD BA;have HR9:=dL (dQ.below UA.o BA);have HW9:=dL IY;have HQ9:=dL Ck;clear yz BA IY Ck Xu rD UA;rw [<-HW9.o,<-HQ9.o];go_wp2_with fail;refine Z8.o.mono ?_;rintro e Vh ⟨A,jX,rfl,hb⟩;have afd:=dJ Qi hb;have afe:=dL (dQ.below HR9.o hb);clear hb Z8;go_wp2_with fail;refine wp_loop_rounds 1 ?_;rw [rounds_succ];go_wp2_with fail;go_ret;exact ⟨G,MK,rfl,afe.o,afd.o⟩
end
section
open Go.RowKit
attribute [local go_sem] dR dO dS dP
theorem aaJ (w:World):Calls prog 183 #[yh] w (dM w (.string (bs [119,105,116,104,32]))):=by
 have hi:(Instr.index 347 (.agg #[yj,.string ⟨#[119,105,116,104,32]⟩,.string ⟨#[119,105,116,104,111,117,116,32]⟩,.string ⟨#[116,121,112,101,32]⟩]) (.int .i64 1)).run prog w=.ok (.string (bs [119,105,116,104,32])) w:=by rfl
 go_enter func183,ntmps183;go_wp2_with fail;go_ret;exact ⟨rfl,aC _ _⟩
theorem Wf (w:World):Calls prog 182 #[rv] w (dM w (.bool true)):=by
 have dV:=dH w (.cells #[yh,.string (bs [46])] 113);have hq:=Blk.new w 113 #[yh,.string (bs [46])];obtain ⟨w1,hw1⟩:=dG (w.alloc (.cells #[yh,.string (bs [46])] 113));obtain ⟨q,iC⟩:=dG w.heap.size;rw [<-hw1] at hq dV;rw [<-iC] at hq;have a0:=hq.cell 0;have a1:=hq.cell 1;simp at a0 a1;have e0:(bs [46] ==(⟨#[46]⟩:ByteArray))=true:=by decide
 have HW:=dL hw1;have HQ:=dL iC;have HB:=dL dV;clear hw1 iC hq dV;go_enter func182,ntmps182;go_upto_region 1 with (fail);rw [<-HW.o,<-HQ.o];go_wp2_with fail;go_ret;exact ⟨rfl,HB.o⟩
structure Gd (w W:World) (b0 q:Nat) (l:List UInt8):Prop where
 b:Below b0 w W
 bld:Pt.Bld W b0 b0 l
 q_:Blk W q 113 #[yh,.string (bs [46])]
variable {w W W':World} {q b0 z t:Nat} {l:List UInt8}
theorem Gd.cells (h:Gd w W b0 q l):W.cell? q=yh/\W.cell? (Qc q 1)=some (.string (bs [46])):=⟨h.q_.cell 0,h.q_.cell 1⟩
theorem Gd.later (h:Gd w W b0 q l) (h0:b0=w.heap.size) (hb:Below W W W'):Gd w W' b0 q l:=⟨h.b.trans (hb.mono (by have:=h.b.size;omega)),Pt.Bld.below h.bld hb,h.q_.below hb h.q_.lt⟩
theorem Gd.wrote {l':List UInt8} (h:Gd w W b0 q l) (hb:Below b0 W W') (jW:Pt.Bld W' b0 b0 l') (hk:Lib.OthersKept 5 (some b0) W W') (hq:q≠b0):Gd w W' b0 q l':=
 ⟨h.b.trans hb,jW,hk q _ h.q_ (by intro e;cases e;exact hq rfl) (by intro c fz e;cases e)⟩
theorem Ge (b off c:Nat) (w:World) (hlt:b < w.heap.size) (h0:w.cell? (Qc b off)=yh) (h1:w.cell? ⟨b,off+1,none⟩=some (.string (bs [46]))):
  Calls prog 119 #[.slice (some ⟨b,off,none⟩) 1 c] w (dM w (.tuple #[.string (bs [119,105,116,104,32,46,10]),qn])):=by
 have kE:=Pt.Bld.fresh w;have dV:=dH w (.cells #[.pointer none,()] 261);obtain ⟨w1,hw1⟩:=dG (w.alloc (.cells #[.pointer none,()] 261));obtain ⟨b0,hb0⟩:=dG w.heap.size;rw [<-hw1] at kE dV;rw [<-hb0] at kE dV;have c0:=(aM (a:=⟨b,off,none⟩) (dV.block b (by omega))).trans h0;have c1:=(aM (a:=⟨b,off+1,none⟩) (dV.block b (by omega))).trans h1;have ig:=Blk.new w1 113 #[yh,.string (bs [46])];have dY:=dH w1 (.cells #[yh,.string (bs [46])] 113);obtain ⟨w2,eV⟩:=dG (w1.alloc (.cells #[yh,.string (bs [46])] 113));obtain ⟨q,hq⟩:=dG w1.heap.size;rw [<-eV] at ig dY;rw [<-hq] at ig;have H2:dK (Gd w w2 b0 q []):=dL ⟨dV.trans (dY.mono (by have:=dV.size;omega)),Pt.Bld.below kE dY,ig⟩;have hqb:q≠b0:=by have h1:b0 < w1.heap.size:=(by rw [hw1,hb0];simp);omega
 have yM:=dL hb0;have yT:=dL hw1;have rH:=dL eV;have HQ:=dL hq;have hsz:w.heap.size=b0:=hb0.symm;unfold dM;rw [hsz];clear kE dV hw1 ig dY eV hq hsz hb0 h0 h1 hlt;go_enter func119,ntmps119;go_upto_region 4 with (fail);rw [<-yM.o,<-yT.o];go_wp2_with fail;refine wp_loop_rounds 2 ?_;rw [rounds_succ];go_upto_region 7 with (fail);rw [<-HQ.o,<-rH.o];clear c0 c1;have a:=Gd.cells H2.o;obtain ⟨a0,a1⟩:=a;go_wp2_with fail;refine (Wf _).mono ?_;rintro e w3 ⟨rfl,hb⟩;have H3:=dL (H2.o.later yM.o hb);clear hb H2 a0 a1;have a:=Gd.cells H3.o;obtain ⟨a0,a1⟩:=a;have QN:bs [119,105,116,104,32]++bs [46]++(⟨#[10]⟩:ByteArray)=bs [119,105,116,104,32,46,10]:=rfl;have acp:(bs [119,105,116,104,32]++bs [46])=bs [119,105,116,104,32,46]:=rfl;have acq:bs [119,105,116,104,32,46]++(⟨#[10]⟩:ByteArray)=bs [119,105,116,104,32,46,10]:=rfl;have H3d:=dL (H3.o.later yM.o (aC _ w3).drew);go_wp2_with fail;go_region_held3 (λw'=>w'.cell? q=yh/\w'.cell? (Qc q 1)=some (.string (bs [46])))
  (with_reducible first|exact Gd.cells H5.o|exact Gd.cells H4.o|exact Gd.cells H3d.o|exact Gd.cells H3.o)
  (first
   |(go_at_call 183;refine (aaJ _).mono ?_;rintro e w4 ⟨rfl,hb⟩;have H4:=dL (H3d.o.later yM.o hb);clear hb)
   |(go_at_call 177;refine (Pt.write_any b0 b0 [] [119,105,116,104,32,46,10] _ H4.o.bld (by simp) (by have:=H4.o.b.size;have:=yM.o;omega)).mono ?_;rintro e w5 ⟨rfl,jW,hb,hk⟩;have H5:=dL (H4.o.wrote hb jW hk hqb);clear jW hb hk))
 all_goals
  rw [ak] at H5;clear a0 a1 QN acp acq H3 H3d H4;go_wp2_with fail;rw [rounds_succ];go_wp2_with fail;refine (Pt.string_any b0 b0 _ _ H5.o.bld (by have:=H5.o.b.size;have:=yM.o;omega)).mono ?_;rintro e w6 ⟨rfl,hb⟩;have jt:=dL (H5.o.b.trans hb);clear hb;go_wp2_with fail;go_ret2;exact ⟨rfl,jt.o⟩
theorem aaK (w:World):Calls prog 242 #[rv] w (dM w (.int .i64 (-1))):=by
 have dV:=dH w (.cells #[yh,.string (bs [46])] 113);have hq:=Blk.new w 113 #[yh,.string (bs [46])];obtain ⟨w1,hw1⟩:=dG (w.alloc (.cells #[yh,.string (bs [46])] 113));obtain ⟨q,iC⟩:=dG w.heap.size;rw [<-hw1] at hq dV;rw [<-iC] at hq;have a1:=hq.cell 1;simp at a1;have e0:(bs [46] ==(⟨#[46]⟩:ByteArray))=true:=by decide
 have HW:=dL hw1;have HQ:=dL iC;have HB:=dL dV;clear hw1 iC hq dV;go_enter func242,ntmps242;go_upto_region 1 with (fail);rw [<-HW.o,<-HQ.o];go_wp2_with fail;go_ret;exact ⟨rfl,HB.o⟩
theorem aaL (w:World):Calls prog 242 #[.agg #[qn,yj]] w (dM w (.int .i64 0)):=by
 have dV:=dH w (.cells #[qn,yj] 113);have hq:=Blk.new w 113 #[qn,yj];obtain ⟨w1,hw1⟩:=dG (w.alloc (.cells #[qn,yj] 113));obtain ⟨q,iC⟩:=dG w.heap.size;rw [<-hw1] at hq dV;rw [<-iC] at hq;have a1:=hq.cell 1;simp at a1;have HW:=dL hw1;have HQ:=dL iC;have HB:=dL dV;clear hw1 iC hq dV;go_enter func242,ntmps242;go_upto_region 1 with (fail);rw [<-HW.o,<-HQ.o];go_wp2_with fail;go_ret;exact ⟨rfl,HB.o⟩
structure JB (w W:World) (z t q:Nat):Prop where
 b:Below w w W
 z_:Blk W z 113 #[qn,yj]
 t_:Blk W t 113 #[qn,yj]
 q_:Blk W q 113 #[yh,.string (bs [46])]
theorem JB.later (h:JB w W z t q) (hb:Below W W W'):JB w W' z t q:=⟨h.b.trans (hb.mono h.b.size),h.z_.below hb h.z_.lt,h.t_.below hb h.t_.lt,h.q_.below hb h.q_.lt⟩
theorem JB.cells (h:JB w W z t q):W.cell? q=yh/\W.cell? (Qc q 1)=some (.string (bs [46]))/\W.cell? t=qn/\W.cell? (Qc t 1)=yj:=⟨h.q_.cell 0,h.q_.cell 1,h.t_.cell 0,h.t_.cell 1⟩
theorem CB (p:List UInt8) (b off c:Nat) (w:World) (hlt:b < w.heap.size) (h0:w.cell? (Qc b off)=yh) (h1:w.cell? ⟨b,off+1,none⟩=some (.string (bs [46]))):
  Calls prog 165 #[.slice (some ⟨b,off,none⟩) 1 c,p] w (dM w rv):=by
 have hwi:withinB p [46]=true:=by unfold withinB;simp
 have HWi:=dL (λw=>qp p [46] (by simp) w);rw [hwi] at HWi;have hz2:Blk ((w.alloc (.cells #[qn,yj] 113)).alloc (.cells #[qn,yj] 113)) w 113 #[qn,yj]:=(Blk.new w 113 _).alloc _;have ht2:Blk ((w.alloc (.cells #[qn,yj] 113)).alloc (.cells #[qn,yj] 113)) (w.heap.size+1) 113 #[qn,yj]:=by
  have:=Blk.new (w.alloc (.cells #[qn,yj] 113)) 113 #[qn,yj]
  rwa [show (w.alloc (.cells #[qn,yj] 113)).heap.size=w.heap.size+1 from ai _] at this
 have dY:Below w w ((w.alloc (.cells #[qn,yj] 113)).alloc (.cells #[qn,yj] 113)):=((aC _ w).alloc (aB _) _).alloc (by simp) _;obtain ⟨w2,eV⟩:=dG ((w.alloc (.cells #[qn,yj] 113)).alloc (.cells #[qn,yj] 113));obtain ⟨t,ht⟩:=dG (w.heap.size+1);obtain ⟨z,hz⟩:=dG w.heap.size;rw [<-eV] at hz2 ht2 dY;rw [<-ht] at ht2;rw [<-hz] at hz2;have UI:z≠t:=by omega
 have hzw:w.heap.size<=z:=by omega
 have IB:w.heap.size<=t:=by omega
 have c0:=(aM (a:=⟨b,off,none⟩) (dY.block b hlt)).trans h0;have c1:=(aM (a:=⟨b,off+1,none⟩) (dY.block b hlt)).trans h1;have jG:=Blk.new w2 113 #[yh,.string (bs [46])];have dn:=dH w2 (.cells #[yh,.string (bs [46])] 113);obtain ⟨w3,jD⟩:=dG (w2.alloc (.cells #[yh,.string (bs [46])] 113));obtain ⟨q,hq⟩:=dG w2.heap.size;rw [<-jD] at jG dn;rw [<-hq] at jG;have hqt:q≠t:=by have:=ht2.lt;omega
 have H3:dK (JB w w3 z t q):=dL ⟨dY.trans (dn.mono dY.size),hz2.below dn hz2.lt,ht2.below dn ht2.lt,jG⟩;have rH:=dL eV;have HT:=dL ht;have HZ:=dL hz;have rB:=dL jD;have HQ:=dL hq;clear hz2 ht2 dY eV ht hz jG dn jD hq h0 h1 hwi;go_enter func165,ntmps165;go_upto_region 2 with (fail);rw [<-HT.o,<-HZ.o,<-rH.o];go_wp2_with fail;refine wp_loop_rounds 2 ?_;rw [rounds_succ];go_upto_region 5 with (fail);rw [<-HQ.o,<-rB.o];clear c0 c1;obtain ⟨a0,a1,-,-⟩:=H3.o.cells;go_wp2_with fail;refine (HWi.o _).mono ?_;rintro e w4 ⟨rfl,hb⟩;have H4:=dL (H3.o.later hb);have H4d:=dL (H4.o.later (aC _ w4).drew);clear hb a0 a1 H3;go_wp2_with fail;go_region_held3 (λw'=>w'.cell? q=yh/\w'.cell? (Qc q 1)=some (.string (bs [46]))/\w'.cell? t=qn/\w'.cell? (Qc t 1)=yj)
  (with_reducible first|exact JB.cells H6.o|exact JB.cells H5.o|exact JB.cells H4d.o|exact JB.cells H4.o)
  (first
   |(go_at_call 242;refine (aaK _).mono ?_;rintro e w5 ⟨rfl,hb⟩;have H5:dK (JB w w5 z t q):=dL (JB.later (by with_reducible first|exact H6.o|exact H4d.o) hb);clear hb)
   |(go_at_call 242;refine (aaL _).mono ?_;rintro e w6 ⟨rfl,hb⟩;have H6:dK (JB w w6 z t q):=dL (JB.later (by with_reducible first|exact H5.o|exact H4d.o) hb);clear hb))
 ·obtain ⟨a0,a1,a2,a3⟩:=H6.o.cells
  have g0:=H6.o.t_.frozen 0;have g1:=H6.o.t_.frozen 1;have k7:dm (λi=>i=t) w6 ((w6.setCell t yh).setCell (Qc t 1) (.string (bs [46]))):=dw (S:=λi=>i=t) (dw (S:=λi=>i=t) (eT (λi=>i=t) w6) ⟨t,0,none⟩ _ (λ_=>rfl)) ⟨t,1,none⟩ _ (λ_=>rfl);have Xv:=(H6.o.t_.set_ 0 (.int .i64 1)).set_ 1 (.string (bs [46]));simp only [aH,aF,aG] at Xv;have tw:=dL Xv;have ZV:=dL (H6.o.z_.kp k7 UI);have lZ:=dL (eL H6.o.b k7 (λi hi=>by rw [hi];exact IB) H6.o.b.size);obtain ⟨w7,mQ⟩:=dG ((w6.setCell t yh).setCell (Qc t 1) (.string (bs [46])));rw [<-mQ] at tw ZV lZ;have FW:=dL mQ;clear k7 Xv mQ;go_upto_region 9 with (fail);rw [<-FW.o];clear a0 a1 a2 a3 g0 g1;go_wp2_with fail;rw [rounds_succ];have a0:=tw.o.cell 0;have a1:=tw.o.cell 1;have b0:=ZV.o.cell 0;have b1:=ZV.o.cell 1;have g0:=ZV.o.frozen 0;have g1:=ZV.o.frozen 1;simp at a0 a1 b0 b1;have k8:dm (λi=>i=z) w7 ((w7.setCell z yh).setCell (Qc z 1) (.string (bs [46]))):=dw (S:=λi=>i=z) (dw (S:=λi=>i=z) (eT (λi=>i=z) w7) ⟨z,0,none⟩ _ (λ_=>rfl)) ⟨z,1,none⟩ _ (λ_=>rfl);have Xw:=(ZV.o.set_ 0 (.int .i64 1)).set_ 1 (.string (bs [46]));have d0:=Xw.cell 0;have d1:=Xw.cell 1;simp at d0 d1;have rD:=dL (eL lZ.o k8 (λi hi=>by rw [hi];exact hzw) lZ.o.size);clear k8 Xw;go_wp2_with fail;exact bodyPost_ret (v:=rv) (by simp [results,results165,go_sem,d0,d1]) rfl ⟨rfl,rD.o⟩
theorem Wg (w:World):Calls prog 167 #[rv] w (dM w (.bool false)):=by
 have dV:=dH w (.cells #[yh,.string (bs [46])] 113);have hq:=Blk.new w 113 #[yh,.string (bs [46])];obtain ⟨w1,hw1⟩:=dG (w.alloc (.cells #[yh,.string (bs [46])] 113));obtain ⟨q,iC⟩:=dG w.heap.size;rw [<-hw1] at hq dV;rw [<-iC] at hq;have a0:=hq.cell 0;simp at a0;have HW:=dL hw1;have HQ:=dL iC;have HB:=dL dV;clear hw1 iC hq dV;go_enter func167,ntmps167;go_upto_region 1 with (fail);rw [<-HW.o,<-HQ.o];go_wp2_with fail;go_ret;exact ⟨rfl,HB.o⟩
theorem TF (b off c:Nat) (w:World) (h0:w.cell? (Qc b off)=yh) (h1:w.cell? ⟨b,off+1,none⟩=some (.string (bs [46]))):
  Calls prog 243 #[.slice (some ⟨b,off,none⟩) 1 c,.func (.func 167) #[] #[]] w (dM w (.int .i64 (-1))):=by
 go_enter func243,ntmps243;go_wp2_with fail;refine wp_loop_rounds 2 ?_;rw [rounds_succ];go_wp2_with fail;refine (Wg _).mono ?_;rintro e w1 ⟨rfl,hb⟩;have HB:=dL hb;clear hb;go_wp2_with fail;rw [rounds_succ];go_wp2_with fail;go_ret;exact ⟨rfl,HB.o⟩
theorem Ox (b off c:Nat) (w:World) (h0:w.cell? (Qc b off)=yh) (h1:w.cell? ⟨b,off+1,none⟩=some (.string (bs [46]))):
  Calls prog 166 #[.slice (some ⟨b,off,none⟩) 1 c,.func (.func 167) #[] #[]] w (dM w (.bool false)):=by
 have HI:=dL (TF b off c w h0 h1);clear h0 h1;go_enter func166,ntmps166;go_wp2_with fail;refine HI.o.mono ?_;rintro e w1 ⟨rfl,hb⟩;have HB:=dL hb;clear hb;go_wp2_with fail;go_ret;exact ⟨rfl,HB.o⟩
theorem Gf (p:List UInt8) (d:Bool) (b off c:Nat) (w:World) (hlt:b < w.heap.size) (h0:w.cell? (Qc b off)=yh) (h1:w.cell? ⟨b,off+1,none⟩=some (.string (bs [46]))):
  Calls prog 112 #[.slice (some ⟨b,off,none⟩) 1 c,p,d] w (dM w (.bool true)):=by
 have HD:=dL (CB p b off c w hlt h0 h1);have HT:dK (∀w',Below w w w'->Calls prog 166 #[.slice (some ⟨b,off,none⟩) 1 c,.func (.func 167) #[] #[]] w' λe w''=>e=.returned false/\Below w'.heap.size w' w''):=dL (λw' hb=>Ox b off c w' ((aM (a:=⟨b,off,none⟩) (hb.block b hlt)).trans h0) ((aM (a:=⟨b,off+1,none⟩) (hb.block b hlt)).trans h1));clear h0 h1;go_enter func112,ntmps112;go_wp2_with fail;refine HD.o.mono ?_;rintro e w1 ⟨rfl,hb⟩;have HB:=dL hb;clear hb;unfold rv;have UJ:(Instr.field 113 (.agg #[yh,.string (bs [46])]) 0).run prog w1=.ok (.int .i64 1) w1:=by rfl
 go_wp2_with fail;clear UJ;refine (HT.o _ HB.o).mono ?_;rintro e w2 ⟨rfl,hb⟩;have eA:=dJ HB hb;clear hb;cases d
 ·go_wp2_with fail
  go_ret;exact ⟨rfl,eA.o⟩
 ·go_wp2_with fail
  go_ret;exact ⟨rfl,eA.o⟩
variable {x:It}
theorem aaM {A:Option Addr} {n c:Nat} (h:yo w A n c [x]):∃b off,A=some ⟨b,off,none⟩/\n=1/\b < w.heap.size/\x.path.length<=9223372036854775807/\x.mf.length<=9223372036854775807/\∀j u,(ic x)[j]? =some u->w.cell? ⟨b,off+j,none⟩=some u:=by
 obtain ⟨b,off,cs,e,hlt,hl,⟨rfl,h1,h2⟩,hc⟩:=h.4 0 (by simp);have hn:=h.1;simp at hn;exact ⟨b,off,e,hn.symm,hlt,h1,h2,λj u hu=>by have:=hc j u hu;simpa using this⟩
theorem Oy:(prog.info? 4).map (λi=>(i.zero,i.size,i.bytes))=some (some (.bool false),1,1):=by kernel_rfl
theorem Wh (s:List UInt8) (hs:s.length<=100000) (w:World):Calls prog 261 #[s] w (dM w (.string (bs s))):=by
 have hl:(bs s).size<=281474976710656:=by rw [dR];omega
 go_enter func261,ntmps261;go_wp2_with fail;refine (stringslite_Clone (bs s) _ hl).mono ?_;rintro e w1 ⟨rfl,hb⟩;have HB:=dL hb;clear hb;go_wp2_with fail;go_ret;exact ⟨rfl,HB.o⟩
theorem Oz (A:Option Addr) (c:Nat) (w:World):Calls prog 263 #[Qq A 1 c] w λe w'=>e=.returned (Qq A 1 c)/\w=w':=by
 go_enter func263,ntmps263;go_wp2_with fail;go_ret;exact ⟨rfl,rfl⟩
theorem aaN (A:Option Addr) (c:Nat) (v:Value) (w:World):Calls prog 64 #[Qq A 0 c,v] w (dM w (.slice none 0 0)):=by
 go_enter func64,ntmps64;go_wp2_with fail;refine wp_loop_rounds 1 ?_;rw [rounds_succ];go_wp2_with fail;go_ret;exact ⟨rfl,aC _ _⟩
theorem Wi (A:Option Addr) (c:Nat) (v:Value) (w:World):Calls prog 190 #[Qq A 0 c,v] w (dM w (.slice none 0 0)):=by
 go_enter func190,ntmps190;go_wp2_with fail;refine (aaN _ _ _ _).mono ?_;rintro e w1 ⟨rfl,hb⟩;have HB:=dL hb;clear hb;go_wp2_with fail;refine wp_loop_rounds 1 ?_;rw [rounds_succ];go_wp2_with fail;refine (OL _ _ _).mono ?_;rintro e w2 ⟨rfl,rfl⟩;go_wp2_with fail;refine (slices_Compact_string_empty none 0 _).mono ?_;rintro e w2 ⟨rfl,rfl⟩;go_wp2_with fail;go_ret;exact ⟨rfl,HB.o⟩
structure Ux (w W:World) (q:Nat) (x:It):Prop where
 b:Below w w W
 q_:Blk W q 44 (ic x).toArray
theorem Ux.later (h:Ux w W q x) (hb:Below W W W'):Ux w W' q x:=⟨h.b.trans (hb.mono h.b.size),h.q_.below hb h.q_.lt⟩
theorem Ux.cells (h:Ux w W q x):W.cell? q=x.path/\W.cell? (Qc q 1)=x.id.1/\W.cell? (Qc q 2)=x.id.2/\W.cell? (Qc q 3)=x.dir/\W.cell? (Qc q 4)=false/\W.cell? (Qc q 5)=x.mf:=
 ⟨h.q_.cell 0,h.q_.cell 1,h.q_.cell 2,h.q_.cell 3,h.q_.cell 4,h.q_.cell 5⟩
theorem aaO (x:It) (A:Option Addr) (n c:Nat) (w:World) (hx:yo w A n c [x]) (b off cr:Nat) (hlt:b < w.heap.size) (h0:w.cell? (Qc b off)=yh) (h1:w.cell? ⟨b,off+1,none⟩=some (.string (bs [46]))):
  Calls prog 64 #[Qq A n c,.slice (some ⟨b,off,none⟩) 1 cr] w λe w'=>∃g cap,e=.returned (.slice (some ⟨g,0,none⟩) 1 cap)/\dQ w' w 1 (.slice (some ⟨g,0,none⟩) 1 cap) 1 [.bool true]/\Below w w w':=by
 obtain ⟨bi,oi,rfl,rfl,hbi,hp,hm,hc⟩:=aaM hx;obtain ⟨i0,hi,hz0,hz1,hz2⟩:=info_parts Oy;have HI:=dL hi;have gx:=dL hz0;have gJ:=dL hz1;have gT:=dL hz2;clear hi hz0 hz1 hz2;have e0:=hc 0 _ rfl;have e1:=hc 1 _ rfl;have e2:=hc 2 _ rfl;have e3:=hc 3 _ rfl;have e4:=hc 4 _ rfl;have e5:=hc 5 _ rfl;simp only [bZ] at e0;have hq:=Blk.new w 44 (ic x).toArray;have dV:=dH w (.cells (ic x).toArray 44);obtain ⟨w1,hw1⟩:=dG (w.alloc (.cells (ic x).toArray 44));obtain ⟨q,iC⟩:=dG w.heap.size;rw [<-hw1] at hq dV;rw [<-iC] at hq;have H1:dK (Ux w w1 q x):=dL ⟨dV,hq⟩;have Xx:=dL (Gf x.path x.dir b off cr w1 (by have:=dV.size;omega) ((aM (a:=⟨b,off,none⟩) (dV.block b hlt)).trans h0) ((aM (a:=⟨b,off+1,none⟩) (dV.block b hlt)).trans h1));have HW:=dL (show w1=w.alloc (.cells #[x.path,x.id.1,x.id.2,x.dir,false,x.mf] 44) from hw1);have HQ:=dL iC;clear hq dV hw1 iC h0 h1 hx hc;go_enter func64,ntmps64;go_wp2_with fail;refine wp_loop_rounds 2 ?_;rw [rounds_succ];go_upto_region 5 with (fail);rw [<-HQ.o,<-HW.o];clear e0 e1 e2 e3 e4 e5;obtain ⟨e0,e1,e2,e3,e4,e5⟩:=H1.o.cells;go_wp2_with fail;refine Xx.o.mono ?_;rintro e w2 ⟨rfl,hb⟩;have H2:=dL (H1.o.later hb);clear hb e0 e1 e2 e3 e4 e5 H1 Xx;go_wp2_with (at_builtin;refine de _ rfl (.tmp 14) (.tmp 21) 120 120 rfl 4 i0 (.bool false) 1 underlying120 HI.o gx.o gJ.o rfl (by decide) rfl _ rfl 1 (by decide) [.bool true] (Src.one underlying120 (by simp [go_sem]) rfl) (by decide) (by rw [gT.o];decide) ?_)
 intro cap w3 hown dn;have vX:Below w2 w2 w3:=((aC w2 w2).alloc (aB _) _).trans (dn.mono (by simp));obtain ⟨G,hG⟩:=dG (w2.heap.size+1);rw [<-hG] at hown;have HO:=dL (dQ.mono (B':=w.heap.size) hown (by have:=H2.o.b.size;omega));have eC:=dL (H2.o.b.trans (vX.mono H2.o.b.size));have HG:=dL hG;clear hown dn vX hG H2;rw [<-HG.o];go_wp2_with fail;rw [rounds_succ];go_wp2_with fail;go_ret;exact ⟨G,cap,rfl,HO.o,eC.o⟩
theorem P3 (x:It) (hd:x.dir=false) (yu:x.mf≠[]) (hm2:x.mf.length<=100000) (A:Option Addr) (n c:Nat) (w:World) (hx:yo w A n c [x]) (b off cr:Nat) (hlt:b < w.heap.size) (h0:w.cell? (Qc b off)=yh) (h1:w.cell? ⟨b,off+1,none⟩=some (.string (bs [46]))):
  Calls prog 190 #[Qq A n c,.slice (some ⟨b,off,none⟩) 1 cr] w λe w'=>∃g cap,e=.returned (.slice (some ⟨g,0,none⟩) 1 cap)/\dQ w' w 1 (.slice (some ⟨g,0,none⟩) 1 cap) 1 [.string (bs x.mf)]/\Below w w w':=by
 have HH:=dL (aaO x A n c w hx b off cr hlt h0 h1);have hme:(x.mf ==[])=false:=by rw [beq_eq_false_iff_ne];exact yu
 obtain ⟨bi,oi,rfl,rfl,hbi,-,-,hc⟩:=aaM hx;obtain ⟨j0,hj,hy0,hy1,hy2⟩:=info_parts Ik.info9s;have HJ:=dL hj;have z7:=dL hy0;have Cv:=dL hy1;have Cw:=dL hy2;have HC:=dL hc;have wB:=dL (λw=>Wh x.mf hm2 w);clear hj hy0 hy1 hy2 hc hx h0 h1 yu hm2;go_enter func190,ntmps190;go_wp2_with fail;refine HH.o.mono ?_;rintro e w1 ⟨g,cap,rfl,ho,hb⟩;obtain ⟨k0,k1,k2,k3,k4⟩:=EI ho;have hc:∀j u,(ic x)[j]? =some u->w1.cell? ⟨bi,oi+j,none⟩=some u:=λj u hu=>(aM (a:=⟨bi,oi+j,none⟩) (hb.block bi hbi)).trans (HC.o j u hu)
 have e0:=hc 0 _ rfl;have e1:=hc 1 _ rfl;have e2:=hc 2 _ rfl;have e3:=hc 3 _ rfl;have e4:=hc 4 _ rfl;have e5:=hc 5 _ rfl;simp only [bZ] at e0;have hq:=Blk.new w1 44 (ic x).toArray;have dY:=dH w1 (.cells (ic x).toArray 44);obtain ⟨w2,eV⟩:=dG (w1.alloc (.cells (ic x).toArray 44));obtain ⟨q,iC⟩:=dG w1.heap.size;rw [<-eV] at hq dY;rw [<-iC] at hq;have H2:dK (Ux w w2 q x):=dL ⟨hb.trans (dY.mono hb.size),hq⟩;have HK:=dL ((aM (a:=⟨g,0,none⟩) (dY.block g k4)).trans k0);have HW:=dL (show w2=w1.alloc (.cells #[x.path,x.id.1,x.id.2,x.dir,false,x.mf] 44) from eV);have HQ:=dL iC;have HD:=dL hd;clear hq dY eV iC hc ho hb k0 k1 k2 k3 HC hd;go_wp2_with fail;refine wp_loop_rounds 2 ?_;rw [rounds_succ];go_upto_region 6 with (fail);rw [<-HQ.o,<-HW.o];clear e0 e1 e2 e3 e4 e5;obtain ⟨e0,e1,e2,e3,e4,e5⟩:=H2.o.cells;rw [HD.o] at e3;have k0:=HK.o;go_wp2_with fail;refine (wB.o _).mono ?_;rintro e w3 ⟨rfl,hb⟩;have eC:=dL (H2.o.b.trans (hb.mono H2.o.b.size));clear hb e0 e1 e2 e3 e4 e5 k0 H2 HK;go_wp2_with (at_builtin;refine de _ rfl (.tmp 33) (.tmp 37) 99 99 rfl 9 j0 (.string ⟨#[]⟩) 1 underlying99 HJ.o z7.o Cv.o rfl (by decide) rfl _ rfl 1 (by decide) [.string (bs x.mf)] (Src.one underlying99 (by simp [go_sem]) rfl) (by decide) (by rw [Cw.o];decide) ?_)
 intro YR w4 hown hb4;have kF:Below w3 w3 w4:=((aC w3 w3).alloc (aB _) _).trans (hb4.mono (by simp));obtain ⟨G,hG⟩:=dG (w3.heap.size+1);rw [<-hG] at hown;have HO:=dL (dQ.mono (B':=w.heap.size) hown (by have:=eC.o.size;omega));have fI:=dJ eC kF;have HG:=dL hG;clear hown hb4 kF hG eC;rw [<-HG.o];go_wp2_with fail;rw [rounds_succ];go_wp2_with fail;refine (WT _ _ _).mono ?_;rintro e w5 ⟨rfl,rfl⟩;go_wp2_with fail;refine (Oz _ _ _).mono ?_;rintro e w5 ⟨rfl,rfl⟩;go_wp2_with fail;go_ret;exact ⟨G,YR,rfl,HO.o,fI.o⟩
end
namespace Pt
open Go.RowKit Fm
attribute [local go_sem] dR dO dS dP
variable {w:World}
theorem missing1{d pb kb q u:Nat} {fs:Files} (h:StI w d pb kb q u fs) (m:List UInt8) (hm:m.length<=1000000) (k:List UInt8) (N:Int) (hk:keysL m=([k],N,0)) (hno:Fm.get fs k=none):
  Calls prog 138 #[Qp d,m] w λe w'=>∃g c,e=.returned (.tuple #[.slice (some ⟨g,0,none⟩) 1 c,qn])/\dQ w' w 1 (.slice (some ⟨g,0,none⟩) 1 c) 1 [.string (bs k)]/\Below w w w':=by
 have hK:=rY m hm w;unfold jO at hK;rw [hk] at hK;have HK:=dL hK;have H:=dL h;obtain ⟨j0,hj,hy0,hy1,hy2⟩:=info_parts Ik.info9s;have HJ:=dL hj;have z7:=dL hy0;have Cv:=dL hy1;have Cw:=dL hy2;have HNO:=dL hno;clear h hj hy0 hy1 hy2 hno hK hk;go_enter func138,ntmps138;go_wp2_with fail;refine HK.o.mono ?_;rintro e w1 ⟨v,rfl,ho,dV⟩;obtain ⟨g0,c0,rfl,UZ,-,hc0,-,-⟩:=jQ ho rfl;have a0:=hc0 0 _ rfl;have hs1:=H.o.later dV;have q2:w1.cell? (Qc d 2)=some (.map (some pb)):=hs1.blk.cell 2;have hlk:=hs1.fs.look2 underlying191 underlying9 uO k;rw [HNO.o] at hlk;simp only [Option.isSome_none,Option.getD_none] at hlk;have eR:=dL dV;clear hs1 dV ho hc0;go_wp2_with fail;refine wp_loop_rounds 2 ?_;rw [rounds_succ];go_wp2_with fail;refine (slices_Contains_string_empty none 0 _ _).mono ?_;rintro e w2 ⟨rfl,rfl⟩;go_wp2_with (at_builtin;refine de _ rfl (.tmp 48) (.tmp 50) 99 99 rfl 9 j0 (.string ⟨#[]⟩) 1 underlying99 HJ.o z7.o Cv.o rfl (by decide) rfl _ rfl 1 (by decide) [.string (bs k)] (Src.one underlying99 (by simp [go_sem]) rfl) (by decide) (by rw [Cw.o];decide) ?_)
 intro cap w3 hown dn;have vX:=((aC _ _).alloc (aB _) _).trans (dn.mono (by simp));obtain ⟨G,hG⟩:=dG (w2.heap.size+1);rw [<-hG] at hown;have HO:=dL (dQ.mono (B':=w.heap.size) hown (by have:=eR.o.size;omega));have eC:=dJ eR vX;have HG:=dL hG;clear hown dn vX hG eR a0 q2 hlk;rw [<-HG.o];go_wp2_with fail;rw [rounds_succ];go_wp2_with fail;go_ret2;exact ⟨G,cap,rfl,HO.o,eC.o⟩
theorem file1{d pb kb q u:Nat} {fs:Files} (h:StI w d pb kb q u fs) (m:List UInt8) (hm:m.length<=1000000) (k x:List UInt8) (N:Int) (hk:keysL m=([k],N,0)) (QE:Fm.get fs k=some x) (hx:x.length<=256) (hjo:joinJ ([k],N,0) [x]=(x,0)):
  Calls prog 85 #[Qp d,m] w (dM w (.tuple #[x,qn])):=by
 have hK:=λw=>rY m hm w
 unfold jO at hK;rw [hk] at hK;have HK:=dL hK;have HM:=dL (missing_any h m hm (by rw [hk]) (by rw [hk];intro k' hk';rw [aW.1 hk',QE];rfl));have H:=dL h;obtain ⟨j0,hj,hy0,hy1,hy2⟩:=info_parts Ik.info9s;have HJ:=dL hj;have z7:=dL hy0;have Cv:=dL hy1;have Cw:=dL hy2;have aff:=dL QE;have HJO:dK (∀A n c w',Strs w' A n c [x]->Calls prog 140 #[m,.slice A n c] w' λe w2=>e=.returned (.tuple #[x,qn])/\Below w'.heap.size w' w2):=dL (λA n c w' hs=>by
  have:=Nu m hm A n c [x] w' hs (λs hs=>by rw [aW.1 hs];omega);rw [hk] at this;unfold mo at this;rw [hjo] at this;exact this)
 clear h hj hy0 hy1 hy2 QE hjo hK hk;go_enter func85,ntmps85;go_wp2_with fail;refine HM.o.mono ?_;rintro e w1 ⟨rfl,dV⟩;have eR:=dL dV;clear dV HM;go_wp2_with fail;refine (HK.o _).mono ?_;rintro e w2 ⟨v,rfl,ho,dY⟩;obtain ⟨g0,c0,rfl,UZ,-,hc0,-,-⟩:=jQ ho rfl;have a0:=hc0 0 _ rfl;have yU:=eR.o.trans (dY.mono eR.o.size);have hs1:=H.o.later yU;have q2:w2.cell? (Qc d 2)=some (.map (some pb)):=hs1.blk.cell 2;have hlk:=hs1.fs.look underlying191 underlying9 uO k;rw [aff.o] at hlk;simp only [bw] at hlk;have eA:=dL yU;clear hs1 dY yU ho hc0 eR;go_wp2_with fail;refine wp_loop_rounds 2 ?_;rw [rounds_succ];go_wp2_with (at_builtin;refine de _ rfl (.tmp 40) (.tmp 47) 99 99 rfl 9 j0 (.string ⟨#[]⟩) 1 underlying99 HJ.o z7.o Cv.o rfl (by decide) rfl _ rfl 1 (by decide) [.string (bs x)] (Src.one underlying99 (by simp [go_sem]) rfl) (by decide) (by rw [Cw.o];decide) ?_)
 intro cap w3 hown dn;have vX:Below w2 w2 w3:=((aC _ _).alloc (aB _) _).trans (dn.mono (by simp));obtain ⟨G,hG⟩:=dG (w2.heap.size+1);rw [<-hG] at hown;have hst:Strs w3 (some ⟨G,0,none⟩) 1 cap [x]:=fm.strs' rfl hown (λy hy=>by rw [aW.1 hy];omega);have HC:=dL (HJO.o _ _ _ _ hst);have eC:=dJ eA vX;have HG:=dL hG;clear hown dn vX hG eA a0 q2 hlk hst HJO;rw [<-HG.o];go_wp2_with fail;rw [rounds_succ];go_wp2_with fail;refine HC.o.mono ?_;rintro e w4 ⟨rfl,hb4⟩;have fI:=dJ eC hb4;clear hb4;go_wp2_with fail;go_ret2;exact ⟨rfl,fI.o⟩
end Pt
end Go.Proofs.YtgdaahffmcfhpaaGreatDoor
