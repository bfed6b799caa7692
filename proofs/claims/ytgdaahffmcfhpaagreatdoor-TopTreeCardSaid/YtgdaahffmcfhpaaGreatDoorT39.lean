/- Lemmas on the way: Aw Ba Bb Bc. -/
import Derived.Test.YtgdaahffmcfhpaaGreatDoorT38
import Derived.Test.YtgdaahffmcfhpaaGreatDoorT00
set_option maxRecDepth 100000
set_option maxHeartbeats 8000000
namespace Go.Proofs.YtgdaahffmcfhpaaGreatDoor
open Tryz
section
open Go.RowKit
attribute [local go_sem] dO dL dQ dM
theorem Gx:(prog.info? 212).map (fun i=>(i.zero,i.size,i.bytes))=some (some (.agg #[.int .i64 0,.slice none 0 0,.slice none 0 0,.slice none 0 0,.slice none 0 0]),5,104):=by kernel_rfl
theorem Src.msg {w:World} {g c:Nat} {u0 u1 u2 u3 u4:Value} (h:Blk w g 212 #[u0,u1,u2,u3,u4]) (h1:∀u∈[u0,u1,u2,u3,u4],u.oneCell'=true):Src prog 5 357 (.slice (some ⟨g,0,none⟩) 1 c) 1 [u0,u1,u2,u3,u4] w:=
 Src.ofSlice w underlying357 ⟨g,0,none⟩ 1 c [u0,u1,u2,u3,u4] rfl (fun j u hu=>by
  have:(Addr.mk g 0 none).add j= ⟨g,j,none⟩:=by unfold Addr.add;split <;> simp_all
  rw [this,h.cell];simpa using hu) h1
theorem Y9 (A:Option Addr) (c:Nat) (f:Value) (w:World):Calls prog 402 #[.slice A 0 c,.int .i64 0,.int .i64 0,f] w fun e w'=>e=.returned (.tuple #[])/\w=w':=by
 go_enter func402,ntmps402;go_wp2_with fail;refine wp_loop_rounds 1 ?_;rw [rounds_succ];go_wp2_with fail;go_end0;exact ⟨rfl,rfl⟩
theorem U4 (A:Option Addr) (c:Nat) (f:Value) (w:World):Calls prog 382 #[.slice A 0 c,.int .i64 0,f] w fun e w'=>e=.returned (.tuple #[])/\w=w':=by
 go_enter func382,ntmps382;go_wp2_with fail;refine wp_loop_rounds 1 ?_;rw [rounds_succ];go_wp2_with fail;refine (Y9 _ _ _ _).mono ?_;rintro e w' ⟨rfl,rfl⟩;go_wp2_with fail;refine wp_loop_rounds 1 ?_;rw [rounds_succ];go_wp2_with fail;go_end0;exact ⟨rfl,rfl⟩
theorem Ay (A:Option Addr) (c:Nat) (f:Value) (w:World):Calls prog 334 #[.slice A 0 c,f] w fun e w'=>e=.returned (.tuple #[])/\w=w':=by
 go_enter func334,ntmps334;go_wp2_with fail;refine (U4 _ _ _ _).mono ?_;rintro e w' ⟨rfl,rfl⟩;go_wp2_with fail;go_end0;exact ⟨rfl,rfl⟩
theorem YA (A:Option Addr) (c:Nat) (f:Value) (w:World):Calls prog 402 #[.slice A 1 c,.int .i64 0,.int .i64 1,f] w fun e w'=>e=.returned (.tuple #[])/\w=w':=by
 go_enter func402,ntmps402;go_wp2_with fail;refine wp_loop_rounds 1 ?_;rw [rounds_succ];go_wp2_with fail;go_end0;exact ⟨rfl,rfl⟩
theorem U5 (A:Option Addr) (c:Nat) (f:Value) (w:World):Calls prog 382 #[.slice A 1 c,.int .i64 1,f] w fun e w'=>e=.returned (.tuple #[])/\w=w':=by
 go_enter func382,ntmps382;go_wp2_with fail;refine wp_loop_rounds 1 ?_;rw [rounds_succ];go_wp2_with fail;refine (YA _ _ _ _).mono ?_;rintro e w' ⟨rfl,rfl⟩;go_wp2_with fail;refine wp_loop_rounds 1 ?_;rw [rounds_succ];go_wp2_with fail;go_end0;exact ⟨rfl,rfl⟩
theorem R1 (A:Option Addr) (c:Nat) (f:Value) (w:World):Calls prog 334 #[.slice A 1 c,f] w fun e w'=>e=.returned (.tuple #[])/\w=w':=by
 go_enter func334,ntmps334;go_wp2_with fail;refine (U5 _ _ _ _).mono ?_;rintro e w' ⟨rfl,rfl⟩;go_wp2_with fail;go_end0;exact ⟨rfl,rfl⟩
theorem oh (k:Int) (hk:k≠1) (u1 u2 u3 u4 so sh:Value) (w:World):Calls prog 273 #[.agg #[.int .i64 k,u1,u2,u3,u4],so,sh] w (dJ w (.slice none 0 0)):=by
 have dR:=dD w (.cells #[.int .i64 k,u1,u2,u3,u4] 212);have eH:=dH dR;have d:(k ==1)=false:=by simp [hk]
 clear dR hk;go_enter func273,ntmps273;go_wp2_with fail;go_ret;exact ⟨rfl,eH.o⟩
structure ua (w W:World) (q:Nat) (A1 A2:Option Addr) (n1 c1 n2 c2:Nat):Prop where
 b:Below w.heap.size w W
 q_:Blk W q 212 #[.int .i64 1,.slice A1 n1 c1,.slice A2 n2 c2,.slice none 0 0,.slice none 0 0]
theorem ua.later {w W W':World} {q:Nat} {A1 A2:Option Addr} {n1 c1 n2 c2:Nat} (h:ua w W q A1 A2 n1 c1 n2 c2) (hb:Below W.heap.size W W'):ua w W' q A1 A2 n1 c1 n2 c2:=⟨h.b.trans (hb.mono h.b.size),h.q_.below hb h.q_.lt⟩
theorem ua.cell {w W:World} {q:Nat} {A1 A2:Option Addr} {n1 c1 n2 c2:Nat} (h:ua w W q A1 A2 n1 c1 n2 c2):W.cell? ⟨q,2,none⟩=some (.slice A2 n2 c2):=h.q_.cell 2
theorem DH (A1 A2:Option Addr) (n1 c1 n2 c2:Nat) (Ao:Option Addr) (no co:Nat) (w:World) (hS:ew w 333 #[.slice Ao no co,.slice A1 n1 c1] (.slice none 0 0)):
  Calls prog 273 #[.agg #[.int .i64 1,.slice A1 n1 c1,.slice A2 n2 c2,.slice none 0 0,.slice none 0 0],.slice Ao no co,.slice none 0 0] w (dJ w (.slice none 0 0)):=by
 have hq1:=Blk.new w 212 #[.int .i64 1,.slice A1 n1 c1,.slice A2 n2 c2,.slice none 0 0,.slice none 0 0];have dR:=dD w (.cells #[.int .i64 1,.slice A1 n1 c1,.slice A2 n2 c2,.slice none 0 0,.slice none 0 0] 212);obtain ⟨w1,hw1⟩:=dB (w.alloc (.cells #[.int .i64 1,.slice A1 n1 c1,.slice A2 n2 c2,.slice none 0 0,.slice none 0 0] 212));rw [<-hw1] at hq1 dR;obtain ⟨q,hq⟩:=dB w.heap.size;rw [<-hq] at hq1;have mT:dG (ua w w1 q A1 A2 n1 c1 n2 c2):=dH ⟨dR,hq1⟩;have HW:=dH hw1;have HQ:=dH hq;have HS:=dH hS;clear hq1 dR hw1 hq hS;go_enter func273,ntmps273;go_upto_region 1 with (fail);rw [<-HW.o,<-HQ.o];have a0:=mT.o.q_.cell 0;have a1:=mT.o.q_.cell 1;simp at a0 a1;go_wp2_with fail;refine (HS.o _ mT.o.b).mono ?_;rintro e w3 ⟨rfl,hb⟩;have pF:=dH (mT.o.later hb);clear hb a0 a1 mT;go_wp2_with fail;refine (Ay _ _ _ _).mono ?_;rintro e w3 ⟨rfl,rfl⟩;go_wp2_with fail;refine wp_loop_rounds 1 ?_;rw [rounds_succ];go_wp2_with fail;go_ret;exact ⟨rfl,pF.o.b⟩
theorem N5 (A1 A2:Option Addr) (n1 c1 n2 c2:Nat) (Ao:Option Addr) (no co:Nat) (p:List UInt8) (hp:p.length<=256) (b off ch:Nat) (w:World) (hS:ew w 333 #[.slice Ao no co,.slice A1 n1 c1] (.slice none 0 0)) (hlt:b < w.heap.size) (hc:w.cell? ⟨b,off,none⟩=some (.string (bs p))) (hK:ew w 191 #[.slice A2 n2 c2,.string (bs ((Pt.sumL p).take 32))] (.bool false)):
  Calls prog 273 #[.agg #[.int .i64 1,.slice A1 n1 c1,.slice A2 n2 c2,.slice none 0 0,.slice none 0 0],.slice Ao no co,.slice (some ⟨b,off,none⟩) 1 ch] w (dJ w (.slice none 0 0)):=by
 have hq1:=Blk.new w 212 #[.int .i64 1,.slice A1 n1 c1,.slice A2 n2 c2,.slice none 0 0,.slice none 0 0];have dR:=dD w (.cells #[.int .i64 1,.slice A1 n1 c1,.slice A2 n2 c2,.slice none 0 0,.slice none 0 0] 212);obtain ⟨w1,hw1⟩:=dB (w.alloc (.cells #[.int .i64 1,.slice A1 n1 c1,.slice A2 n2 c2,.slice none 0 0,.slice none 0 0] 212));rw [<-hw1] at hq1 dR;obtain ⟨q,hq⟩:=dB w.heap.size;rw [<-hq] at hq1;have mT:dG (ua w w1 q A1 A2 n1 c1 n2 c2):=dH ⟨dR,hq1⟩;have HW:=dH hw1;have HQ:=dH hq;have HS:=dH hS;clear hq1 dR hw1 hq hS;have HC:=dH hc;have HK:=dH hK;have G5:=dH (fun w=>Pt.key_c p (by omega) w);clear hc hK hp;go_enter func273,ntmps273;go_upto_region 1 with (fail);rw [<-HW.o,<-HQ.o];have a0:=mT.o.q_.cell 0;have a1:=mT.o.q_.cell 1;simp at a0 a1;go_wp2_with fail;refine (HS.o _ mT.o.b).mono ?_;rintro e w3 ⟨rfl,hb⟩;have pF:=dH (mT.o.later hb);clear hb a0 a1 mT;go_wp2_with fail;refine (Ay _ _ _ _).mono ?_;rintro e w3 ⟨rfl,rfl⟩;go_wp2_with fail;refine wp_loop_rounds 2 ?_;rw [rounds_succ];have c0:=(aI (a:=⟨b,off,none⟩) (pF.o.b.block b hlt)).trans HC.o;have oq:dG (ua w w3.drew q A1 A2 n1 c1 n2 c2):=dH (pF.o.later (aC _ w3).drew);go_wp2_with fail;go_region_held3 (fun w'=>w'.cell? ⟨q,2,none⟩=some (.slice A2 n2 c2))
  (with_reducible first|exact ua.cell EP.o|exact ua.cell td.o|exact ua.cell oq.o|exact ua.cell pF.o)
  (first
   |(go_at_call 179;refine (G5.o _).mono ?_;rintro e w4 ⟨rfl,hb⟩;have td:=dH (oq.o.later hb);have nT:=dH ((aC _ w3).drew.trans hb);clear hb)
   |(go_at_call 191;refine (HK.o _ td.o.b).mono ?_;rintro e w5 ⟨rfl,hb⟩;have EP:=dH (td.o.later hb);have Dl:=dH (nT.o.trans (hb.mono nT.o.size));clear hb))
 clear c0 td nT oq;go_wp2_with fail;rw [rounds_succ];go_wp2_with fail;go_ret;exact ⟨rfl,EP.o.b⟩
theorem N6 (A1 A2:Option Addr) (n1 c1 n2 c2:Nat) (Ao:Option Addr) (no co:Nat) (p:List UInt8) (hp:p.length<=256) (b off ch:Nat) (w:World) (hS:ew w 333 #[.slice Ao no co,.slice A1 n1 c1] (.slice none 0 0)) (hlt:b < w.heap.size) (hc:w.cell? ⟨b,off,none⟩=some (.string (bs p))) (hK:ew w 191 #[.slice A2 n2 c2,.string (bs ((Pt.sumL p).take 32))] (.bool true)):
  Calls prog 273 #[.agg #[.int .i64 1,.slice A1 n1 c1,.slice A2 n2 c2,.slice none 0 0,.slice none 0 0],.slice Ao no co,.slice (some ⟨b,off,none⟩) 1 ch] w fun e w'=>∃g c v,e=.returned (.slice (some ⟨g,0,none⟩) 1 c)/\dN w' w.heap.size 5 (.slice (some ⟨g,0,none⟩) 1 c) 1 [.int .i64 3,.slice none 0 0,.slice none 0 0,.slice none 0 0,v]/\nQ w' v [p]/\iV w.heap.size v/\Below w.heap.size w w':=by
 have hq1:=Blk.new w 212 #[.int .i64 1,.slice A1 n1 c1,.slice A2 n2 c2,.slice none 0 0,.slice none 0 0];have dR:=dD w (.cells #[.int .i64 1,.slice A1 n1 c1,.slice A2 n2 c2,.slice none 0 0,.slice none 0 0] 212);obtain ⟨w1,hw1⟩:=dB (w.alloc (.cells #[.int .i64 1,.slice A1 n1 c1,.slice A2 n2 c2,.slice none 0 0,.slice none 0 0] 212));rw [<-hw1] at hq1 dR;obtain ⟨q,hq⟩:=dB w.heap.size;rw [<-hq] at hq1;have mT:dG (ua w w1 q A1 A2 n1 c1 n2 c2):=dH ⟨dR,hq1⟩;have HW:=dH hw1;have HQ:=dH hq;have HS:=dH hS;clear hq1 dR hw1 hq hS;have HC:=dH hc;have HK:=dH hK;have G5:=dH (fun w=>Pt.key_c p (by omega) w);clear hc hK hp;obtain ⟨i0,hi,hz0,hz1,hz2⟩:=info_parts Gx;have HI:=dH hi;have j9:=dH hz0;have gH:=dH hz1;have iH:=dH hz2;clear hi hz0 hz1 hz2;obtain ⟨j0,hj,hy0,hy1,hy2⟩:=info_parts Ik.info9s;have HJ:=dH hj;have uo:=dH hy0;have zc:=dH hy1;have ze:=dH hy2;clear hj hy0 hy1 hy2;go_enter func273,ntmps273;go_upto_region 1 with (fail);rw [<-HW.o,<-HQ.o];have a0:=mT.o.q_.cell 0;have a1:=mT.o.q_.cell 1;simp at a0 a1;go_wp2_with fail;refine (HS.o _ mT.o.b).mono ?_;rintro e w3 ⟨rfl,hb⟩;have pF:=dH (mT.o.later hb);clear hb a0 a1 mT;go_wp2_with fail;refine (Ay _ _ _ _).mono ?_;rintro e w3 ⟨rfl,rfl⟩;go_wp2_with fail;refine wp_loop_rounds 2 ?_;rw [rounds_succ];have c0:=(aI (a:=⟨b,off,none⟩) (pF.o.b.block b hlt)).trans HC.o;have oq:dG (ua w w3.drew q A1 A2 n1 c1 n2 c2):=dH (pF.o.later (aC _ w3).drew);go_wp2_with fail;go_region_held3 (fun w'=>w'.cell? ⟨q,2,none⟩=some (.slice A2 n2 c2))
  (with_reducible first|exact ua.cell EP.o|exact ua.cell td.o|exact ua.cell oq.o|exact ua.cell pF.o)
  (first
   |(go_at_call 179;refine (G5.o _).mono ?_;rintro e w4 ⟨rfl,hb⟩;have td:=dH (oq.o.later hb);have nT:=dH ((aC _ w3).drew.trans hb);clear hb)
   |(go_at_call 191;refine (HK.o _ td.o.b).mono ?_;rintro e w5 ⟨rfl,hb⟩;have EP:=dH (td.o.later hb);have Dl:=dH (nT.o.trans (hb.mono nT.o.size));clear hb))
 clear c0 td nT oq;go_wp2_with (at_builtin;refine dU _ rfl (.tmp 49) (.tmp 51) 99 99 rfl 9 j0 (.string ⟨#[]⟩) 1 underlying99 HJ.o uo.o zc.o rfl (by decide) rfl _ rfl 1 (by decide) [.string (bs p)] (Src.one underlying99 (by simp [go_sem]) rfl) (by decide) (by rw [ze.o];decide) ?_)
 intro Om w6 hown iW;have Zn:Below w5.heap.size w5 w6:=((aC w5.heap.size w5).alloc (aB _) _).trans (iW.mono (by simp));obtain ⟨g1,hg1⟩:=dB (w5.heap.size+1);rw [<-hg1] at hown;have Va:=dH (dN.mono (B':=w.heap.size) hown (by have:=EP.o.b.size;omega));have Zo:=dH (EP.o.later Zn);have sS:=dH hg1;clear hown iW Zn hg1 EP Dl pF;rw [<-sS.o];go_wp2_with fail;rw [rounds_succ];have Wu:dG (Blk (w6.alloc (.cells #[.int .i64 3,.slice none 0 0,.slice none 0 0,.slice none 0 0,.slice (some ⟨g1,0,none⟩) 1 Om] 212)) w6.heap.size 212 #[.int .i64 3,.slice none 0 0,.slice none 0 0,.slice none 0 0,.slice (some ⟨g1,0,none⟩) 1 Om]):=dH (Blk.new w6 212 _);have OV:dG (Below w6.heap.size w6 (w6.alloc (.cells #[.int .i64 3,.slice none 0 0,.slice none 0 0,.slice none 0 0,.slice (some ⟨g1,0,none⟩) 1 Om] 212))):=dH ((aC _ w6).alloc (aB _) _);go_wp2_with (at_builtin;refine dU _ rfl (.tmp 57) (.tmp 60) 357 357 rfl 212 i0 (.agg #[.int .i64 0,.slice none 0 0,.slice none 0 0,.slice none 0 0,.slice none 0 0]) 5 underlying357 HI.o j9.o gH.o rfl (by decide) rfl _ rfl 1 (by decide) [.int .i64 3,.slice none 0 0,.slice none 0 0,.slice none 0 0,.slice (some ⟨g1,0,none⟩) 1 Om] (Src.msg Wu.o (fun u hu=>by simp only [aR,bJ,or_false] at hu;rcases hu with rfl|rfl|rfl|rfl|rfl <;> rfl)) (by decide) (by rw [iH.o];decide) ?_)
 intro cap w7 hown lZ;have Vk:=OV.o.trans (lZ.mono (by simp));obtain ⟨G,hG⟩:=dB (w6.heap.size+1);rw [<-hG] at hown;have HR7:=dH (dN.mono (B':=w.heap.size) hown (by have:=Zo.o.b.size;omega));have PS:=dH (Zo.o.later Vk);have Ze:=dH (dN.below Va.o Vk);have HG:=dH hG;clear hown lZ Vk hG Zo Va Wu OV;rw [<-HG.o];go_wp2_with fail;go_ret;obtain ⟨g',c',e',hlt',Sh,BZ,k1,k2⟩:=iO Ze.o rfl;cases e';exact ⟨G,cap,_,rfl,HR7.o,.inr ⟨g1,0,Om,p,rfl,rfl,hlt',BZ 0 _ rfl,k1,k2⟩,mL Ze.o (aB _),PS.o.b⟩
theorem N7 (A1 A2:Option Addr) (n1 c1 n2 c2:Nat) (Ao:Option Addr) (no co:Nat) (x:dV) (p:List UInt8) (hp:p.length<=256) (b off ch:Nat) (w:World) (hS:∀w',Below w.heap.size w w'->Calls prog 333 #[.slice Ao no co,.slice A1 n1 c1] w' fun e w2=>∃A c,e=.returned (.slice A 1 c)/\dN w2 w'.heap.size 11 (.slice A 1 c) 1 (BX [x])/\Below w'.heap.size w' w2) (hlt:b < w.heap.size) (hc:w.cell? ⟨b,off,none⟩=some (.string (bs p))) (hK:ew w 191 #[.slice A2 n2 c2,.string (bs ((Pt.sumL p).take 32))] (.bool false)):
  Calls prog 273 #[.agg #[.int .i64 1,.slice A1 n1 c1,.slice A2 n2 c2,.slice none 0 0,.slice none 0 0],.slice Ao no co,.slice (some ⟨b,off,none⟩) 1 ch] w fun e w'=>∃g c v,e=.returned (.slice (some ⟨g,0,none⟩) 1 c)/\dN w' w.heap.size 5 (.slice (some ⟨g,0,none⟩) 1 c) 1 [.int .i64 2,.slice none 0 0,.slice none 0 0,v,.slice none 0 0]/\sI w' v [x]/\iV w.heap.size v/\Below w.heap.size w w':=by
 have hq1:=Blk.new w 212 #[.int .i64 1,.slice A1 n1 c1,.slice A2 n2 c2,.slice none 0 0,.slice none 0 0];have dR:=dD w (.cells #[.int .i64 1,.slice A1 n1 c1,.slice A2 n2 c2,.slice none 0 0,.slice none 0 0] 212);obtain ⟨w1,hw1⟩:=dB (w.alloc (.cells #[.int .i64 1,.slice A1 n1 c1,.slice A2 n2 c2,.slice none 0 0,.slice none 0 0] 212));rw [<-hw1] at hq1 dR;obtain ⟨q,hq⟩:=dB w.heap.size;rw [<-hq] at hq1;have mT:dG (ua w w1 q A1 A2 n1 c1 n2 c2):=dH ⟨dR,hq1⟩;have HW:=dH hw1;have HQ:=dH hq;have HS:=dH hS;clear hq1 dR hw1 hq hS;have HC:=dH hc;have HK:=dH hK;have G5:=dH (fun w=>Pt.key_c p (by omega) w);clear hc hK hp;obtain ⟨i0,hi,hz0,hz1,hz2⟩:=info_parts Gx;have HI:=dH hi;have j9:=dH hz0;have gH:=dH hz1;have iH:=dH hz2;clear hi hz0 hz1 hz2;go_enter func273,ntmps273;go_upto_region 1 with (fail);rw [<-HW.o,<-HQ.o];have a0:=mT.o.q_.cell 0;have a1:=mT.o.q_.cell 1;simp at a0 a1;go_wp2_with fail;refine (HS.o _ mT.o.b).mono ?_;rintro e w2 ⟨A,c,rfl,ho,hb⟩;have rV:=dH (mT.o.later hb);have yD:=dH (dN.mono (B':=w.heap.size) ho mT.o.b.size);clear ho hb a0 a1 mT;go_wp2_with fail;refine (R1 _ _ _ _).mono ?_;rintro e w2 ⟨rfl,rfl⟩;have Dh:1<=c:=by
  obtain ⟨g',c',e',-,-,-,k1,k2⟩:=iO yD.o rfl;cases e';exact k1
 obtain ⟨g1,rfl⟩:∃g1,A=some ⟨g1,0,none⟩:=by
  obtain ⟨g',c',e',-,-,-,k1,k2⟩:=iO yD.o rfl;cases e';exact ⟨_,rfl⟩
 have Kg:dG (Blk (w2.alloc (.cells #[.int .i64 2,.slice none 0 0,.slice none 0 0,.slice (some ⟨g1,0,none⟩) 1 c,.slice none 0 0] 212)) w2.heap.size 212 #[.int .i64 2,.slice none 0 0,.slice none 0 0,.slice (some ⟨g1,0,none⟩) 1 c,.slice none 0 0]):=dH (Blk.new w2 212 _);have OV:dG (Below w2.heap.size w2 (w2.alloc (.cells #[.int .i64 2,.slice none 0 0,.slice none 0 0,.slice (some ⟨g1,0,none⟩) 1 c,.slice none 0 0] 212))):=dH ((aC _ w2).alloc (aB _) _);go_wp2_with (at_builtin;refine dU _ rfl (.tmp 24) (.tmp 31) 357 357 rfl 212 i0 (.agg #[.int .i64 0,.slice none 0 0,.slice none 0 0,.slice none 0 0,.slice none 0 0]) 5 underlying357 HI.o j9.o gH.o rfl (by decide) rfl _ rfl 1 (by decide) [.int .i64 2,.slice none 0 0,.slice none 0 0,.slice (some ⟨g1,0,none⟩) 1 c,.slice none 0 0] (Src.msg Kg.o (fun u hu=>by simp only [aR,bJ,or_false] at hu;rcases hu with rfl|rfl|rfl|rfl|rfl <;> rfl)) (by decide) (by rw [iH.o];decide) ?_)
 intro cap w3 hown di;have uN:=OV.o.trans (di.mono (by simp));obtain ⟨G,hG⟩:=dB (w2.heap.size+1);rw [<-hG] at hown;have O5:=dH (dN.mono (B':=w.heap.size) hown (by have:=rV.o.b.size;omega));have pF:=dH (rV.o.later uN);have pE:=dH (dN.below yD.o uN);have HG:=dH hG;clear hown di uN hG rV yD Kg OV;rw [<-HG.o];go_wp2_with fail;refine wp_loop_rounds 2 ?_;rw [rounds_succ];have c0:=(aI (a:=⟨b,off,none⟩) (pF.o.b.block b hlt)).trans HC.o;have oq:dG (ua w w3.drew q A1 A2 n1 c1 n2 c2):=dH (pF.o.later (aC _ w3).drew);go_wp2_with fail;go_region_held3 (fun w'=>w'.cell? ⟨q,2,none⟩=some (.slice A2 n2 c2))
  (with_reducible first|exact ua.cell EP.o|exact ua.cell td.o|exact ua.cell oq.o|exact ua.cell pF.o)
  (first
   |(go_at_call 179;refine (G5.o _).mono ?_;rintro e w4 ⟨rfl,hb⟩;have td:=dH (oq.o.later hb);have nT:=dH ((aC _ w3).drew.trans hb);clear hb)
   |(go_at_call 191;refine (HK.o _ td.o.b).mono ?_;rintro e w5 ⟨rfl,hb⟩;have EP:=dH (td.o.later hb);have Dl:=dH (nT.o.trans (hb.mono nT.o.size));clear hb))
 clear c0 td nT oq;go_wp2_with fail;have Ut:=dH (dN.below O5.o Dl.o);have Df:=dH (dN.below pE.o Dl.o);rw [rounds_succ];go_wp2_with fail;go_ret;obtain ⟨g',c',e',hlt',Sh,BZ,k1,k2⟩:=iO Df.o rfl;cases e';exact ⟨G,cap,_,rfl,Ut.o,.inr ⟨g1,0,c,x,rfl,rfl,hlt',fun j u hu=>BZ j u (by simpa [BX] using hu),k1,k2⟩,mL Df.o (aB _),EP.o.b⟩
end
section
open Go.RowKit
attribute [local go_sem] dO dL dQ dM
theorem U6 {w:World} {b:Nat} (h:w.heap[b]? =some (.map #[] 0)) (k:List UInt8) (v:Value):
  ∃w1,(Instr.mapUpdate 225 (.map (some b)) (.string (bs k)) v).run prog w=.ok () w1/\w1.heap[b]? =some (.map #[{ key:=.string (bs k),val:=v,born:=0 }] 1)/\w.grownBy w1 (some b)/\w1.heap.size=w.heap.size:=by
 obtain ⟨w1,hr,dR,hg1,hs1⟩:=Ms.set_obj (P:=prog) (.map #[{ key:=.string (bs k),val:=v,born:=0 }] 1) h;refine ⟨w1,?_,dR,hg1,hs1⟩;have nY:=Ms.finding wH k w [];have hck:=wH.check false k w;simp only [List.map_nil,Ms.place,Option.map_none] at nY;have e:(#[]:Array MapEntry).push { key:=.string (bs k),val:=v,born:=0 }=#[{ key:=.string (bs k),val:=v,born:=0 }]:=rfl;unfold Ms.sk at nY hck;simp only [Instr.mapUpdate,Sem.run_bind,run_underlying wH.map_,Go.MapKept.run_getObj_map h,Result.andThen_ok,hck,nY,e,aY,hr]
def uE (w:World) (b:Nat) (k:List UInt8) (v:Value):Prop:=w.heap[b]? =some (.map #[{ key:=.string (bs k),val:=v,born:=0 }] 1)
theorem uE.lt {w:World} {b:Nat} {k:List UInt8} {v:Value} (h:uE w b k v):b < w.heap.size:=gQ h
theorem uE.below {w w':World} {b:Nat} {k:List UInt8} {v:Value} (h:uE w b k v) (hb:Below w.heap.size w w'):uE w' b k v:=(hb.block b h.lt).trans h
theorem uE.look {w:World} {b:Nat} {k:List UInt8} {v:Value} (h:uE w b k v):(Instr.lookup 225 (.map (some b)) (.string (bs k)) false).run prog w=.ok v w:=by
 have hF:Ms.MapF Ms.sk w b (fun k'=>Ms.get [(k,v,0)] k'):=⟨[(k,v,0)],1,h,by simp,by simp,fun _=>rfl⟩;have:=hF.look wH k;simpa [Ms.get,Ms.place,Ms.sk] using this
theorem uE.e {w:World} {b:Nat} {k:List UInt8} {v:Value} (h:uE w b k v):Ik.MapE w b [(k,v)]:=Ik.MapE.one h
section
variable (w:World) {ops:Array Oper} {rest:List Oper} {o:Oper} {a:Act} {Q:Exit->Act->World->Prop}
theorem xy (hg:o.guard=none) (m:Operand) (mt kt et:TypeId) (Rk:prog.underlying mt=some (.map kt et)) (hop:o.op=Op.range mt m) (b:Nat) (es:List Ik.En) (hm:a.eval m=.map (some b)) (hown:Ik.MapE w b es)
  (hK:∀w',Ik.RngE w' b w.heap.size es es->Below w.heap.size w w'->w'.heap.size=w.heap.size+1->wpList prog ops Q rest (a.put o.dst (.pointer (some ⟨w.heap.size,0,none⟩))) w'):
  wpList prog ops Q (o :: rest) a w:=by
 refine wpList_plain hg fun K' zh=>?_
 obtain ⟨w',hrun,r1,r2,r3⟩:=hown.range mt kt et Rk;unfold Oper.wp;simp [execOp,hop,hm,hrun,Result.andThen];exact zh _ _ (hK w' r1 r2 r3)
theorem wpList_next1 (hg:o.guard=none) (it:Operand) (hop:o.op=Op.next it false) (b r:Nat) (es:List Ik.En) (k:List UInt8) (v:Value) (hit:a.eval it=.pointer (some ⟨r,0,none⟩)) (h:Ik.RngE w b r es [(k,v)])
  (hMore:∀w',Ik.RngE w' b r es []->w.grownBy w' (some r)->(Instr.entry (.pointer (some ⟨r,0,none⟩))).run prog w'=.ok (.tuple #[.string (bs k),v]) w'->wpList prog ops Q rest (a.put o.dst (.tuple #[.bool true,.string (bs k),v])) w'):
  wpList prog ops Q (o :: rest) a w:=by
 refine wpList_plain hg fun K' zh=>?_
 unfold Oper.wp;rcases h.next (P:=prog) o.type with ⟨h0,hrun⟩| ⟨x,left',w',h0,hrun,h2,h3,h4,h5⟩
 ·cases h0
 ·have hx:x=(k,v)/\left'=[]:=by
   have:=h0.symm.eq_singleton;simpa using this
  obtain ⟨rfl,rfl⟩:=hx;simp [execOp,hop,hit,hrun,Result.andThen];exact zh _ _ (hMore w' h2 h3 h5)
theorem wpList_next0 (hg:o.guard=none) (it:Operand) (hop:o.op=Op.next it false) (b r:Nat) (es:List Ik.En) (hit:a.eval it=.pointer (some ⟨r,0,none⟩)) (h:Ik.RngE w b r es [])
  (hDone:wpList prog ops Q rest (a.put o.dst (.tuple #[.bool false])) w):
  wpList prog ops Q (o :: rest) a w:=by
 refine wpList_plain hg fun K' zh=>?_
 unfold Oper.wp;rcases h.next (P:=prog) o.type with ⟨h0,hrun⟩| ⟨x,left',w',h0,hrun,h2,h3,h4,h5⟩
 ·simp [execOp,hop,hit,hrun,Result.andThen]
  exact zh _ _ hDone
 ·have:=h0.length_eq;simp at this
end
theorem U7 (v:Value) (b:Nat) (w:World) (h:uE w b [46] v):Calls prog 187 #[.map (some b),.string (bs [46])] w (dJ w (.int .i64 2)):=by
 have hE:=h.e;clear h;go_enter func187,ntmps187;go_wp2_with (at_range;refine xy _ rfl _ 225 9 3 underlying225 rfl b [([46],v)] rfl hE ?_;intro w1 Dj dR hs1)
 obtain ⟨r,hr⟩:=dB w.heap.size;have HB:=dH dR;have HR:=dH hr;have hrw:w.heap.size<=r:=by omega
 rw [<-hr] at Dj;clear dR hr hs1;rw [<-HR.o];refine wp_loop_rounds 2 ?_;rw [rounds_succ];go_wp2_with (at_next;refine wpList_next1 _ rfl _ rfl b r [([46],v)] [46] v rfl Dj ?_;intro w2 pI hg2 Oh)
 have eG:=dH (HB.o.grown hg2 HB.o.size (fun j hj=>by cases hj;exact hrw));clear hg2;rw [rounds_succ];go_wp2_with (at_next;refine wpList_next0 _ rfl _ rfl b r [([46],v)] rfl pI ?_)
 go_ret;exact ⟨rfl,eG.o⟩
theorem R2 (k:List UInt8) (v f:Value) (b q:Nat) (w:World) (h:uE w b k v) (hq:Boxed w q 225 (.map (some b))) (De:q < w.heap.size):
  Calls prog 184 #[.func (.func 258) #[] #[.pointer (some ⟨q,0,none⟩)],f] w fun e w'=>∃g c,e=.returned (.slice (some ⟨g,0,none⟩) 1 c)/\dN w' w.heap.size 1 (.slice (some ⟨g,0,none⟩) 1 c) 1 [.string (bs k)]/\Below w.heap.size w w':=by
 have HC:=dH (Ik.collect_si q b _ w (by simp) De hq h.e);clear h hq;go_enter func184,ntmps184;go_wp2_with fail;refine HC.o.mono ?_;rintro e w1 ⟨u,ys,rfl,hp,ho,hb⟩;obtain rfl:ys=[(k,v)]:=hp.eq_singleton;obtain ⟨g,cap,rfl,-,-,-,-,-,-⟩:=(dN.of_row ho).form (by simp);have HO:=dH (dN.of_row ho);have HB:=dH hb;clear hp ho hb;go_wp2_with fail;refine (Tx _ _ _ _).mono ?_;rintro e w2 ⟨rfl,rfl⟩;go_wp2_with fail;go_ret;exact ⟨g,cap,rfl,HO.o,HB.o⟩
theorem R3 (f:Value) (b q:Nat) (w:World) (h:w.heap[b]? =some (.map #[] 0)) (hq:Boxed w q 122 (.map (some b))) (De:q < w.heap.size):
  Calls prog 184 #[.func (.func 260) #[] #[.pointer (some ⟨q,0,none⟩)],f] w fun e w'=>∃A c,e=.returned (.slice A 0 c)/\Below w.heap.size w w':=by
 have HC:=dH (Ik.collect_sb q b _ w (by simp) De hq (Ik.MapE.nil_ h));clear h hq;go_enter func184,ntmps184;go_wp2_with fail;refine HC.o.mono ?_;rintro e w1 ⟨u,ys,rfl,hp,ho,hb⟩;obtain rfl:ys=[]:=hp.eq_nil;obtain ⟨A,cap,rfl⟩:=kJ ho;have HB:=dH hb;clear hp ho hb;go_wp2_with fail;refine (Tw _ _ _ _).mono ?_;rintro e w2 ⟨rfl,rfl⟩;go_wp2_with fail;go_ret;exact ⟨A,cap,rfl,HB.o⟩
theorem R4 (w:World):(Instr.makeMap 122 none).run prog w=.ok (.map (some w.heap.size)) (w.alloc (.map #[] 0)):=by simp [go_sem,Instr.makeMap]
theorem R5:(prog.info? 113).map (fun i=>(i.zero,i.size,i.bytes))=some (some (.agg #[.int .i64 0,.string ⟨#[]⟩]),2,24):=by kernel_rfl
abbrev rv:Value:=.agg #[.int .i64 1,.string (bs [46])]
theorem Src.rule {w:World} {g c:Nat} (h:Blk w g 113 #[.int .i64 1,.string (bs [46])]):Src prog 2 52 (.slice (some ⟨g,0,none⟩) 1 c) 1 [.int .i64 1,.string (bs [46])] w:=
 Src.ofSlice w underlying52 ⟨g,0,none⟩ 1 c [.int .i64 1,.string (bs [46])] rfl (fun j u hu=>by
  have:(Addr.mk g 0 none).add j= ⟨g,j,none⟩:=by unfold Addr.add;split <;> simp_all
  rw [this,h.cell];simpa using hu) (fun u hu=>by simp only [aR,bJ,or_false] at hu;rcases hu with rfl|rfl <;> rfl)
theorem Jj (b off c:Nat) (w:World) (hlt:b < w.heap.size) (h0:w.cell? ⟨b,off,none⟩=some (.int .i64 1)) (h1:w.cell? ⟨b,off+1,none⟩=some (.string (bs [46]))):
  Calls prog 120 #[.slice (some ⟨b,off,none⟩) 1 c] w fun e w'=>∃g cap,e=.returned (.slice (some ⟨g,0,none⟩) 1 cap)/\dN w' w.heap.size 2 (.slice (some ⟨g,0,none⟩) 1 cap) 1 [.int .i64 1,.string (bs [46])]/\Below w.heap.size w w':=by
 obtain ⟨i0,hi,hz0,hz1,hz2⟩:=info_parts R5;have HI:=dH hi;have j9:=dH hz0;have gH:=dH hz1;have iH:=dH hz2;clear hi hz0 hz1 hz2;have xN:=Gp w;have hm2:=R4 (w.alloc (.map #[] 0));have e0:(⟨#[46]⟩:ByteArray)=bs [46]:=rfl;have hmb:((w.alloc (.map #[] 0)).alloc (.map #[] 0)).heap[w.heap.size]? =some (.map #[] 0):=by
  rw [bE _ _ _ (by simp)];exact heap_alloc_new w _
 have Rk:((w.alloc (.map #[] 0)).alloc (.map #[] 0)).heap[w.heap.size+1]? =some (.map #[] 0):=by
  have:=heap_alloc_new (w.alloc (.map #[] 0)) (.map #[] 0)
  rwa [show (w.alloc (.map #[] 0)).heap.size=w.heap.size+1 from aZ _] at this
 have dS:Below w.heap.size w ((w.alloc (.map #[] 0)).alloc (.map #[] 0)):=((aC _ w).alloc (aB _) _).alloc (by simp) _;obtain ⟨w2,eV⟩:=dB ((w.alloc (.map #[] 0)).alloc (.map #[] 0));obtain ⟨mt,Wa⟩:=dB (w.heap.size+1);obtain ⟨mk,Wb⟩:=dB w.heap.size;rw [<-eV] at hmb Rk dS;rw [<-Wb] at hmb;rw [<-Wa] at Rk;have hkt:mk≠mt:=by omega
 have Rf:w.heap.size<=mk:=by omega
 have pR:=dH eV;have HMT:=dH Wa;have HMK:=dH Wb;have c0:=(aI (a:=⟨b,off,none⟩) (dS.block b hlt)).trans h0;have c1:=(aI (a:=⟨b,off+1,none⟩) (dS.block b hlt)).trans h1;clear eV Wa Wb h0 h1;go_enter func120,ntmps120;go_upto_region 2 with (fail);rw [<-HMT.o,<-HMK.o,<-pR.o];go_wp2_with fail;refine wp_loop_rounds 2 ?_;rw [rounds_succ];have jR:=Blk.new w2 113 #[.int .i64 1,.string (bs [46])];have di:=dD w2 (.cells #[.int .i64 1,.string (bs [46])] 113);obtain ⟨w3,iI⟩:=dB (w2.alloc (.cells #[.int .i64 1,.string (bs [46])] 113));obtain ⟨q,lN⟩:=dB w2.heap.size;rw [<-iI] at jR di;rw [<-lN] at jR;have Zp:mk < w2.heap.size:=gQ hmb;have Zq:mt < w2.heap.size:=gQ Rk;have Vl:=(di.block mk Zp).trans hmb;have Zr:=(di.block mt Zq).trans Rk;have Vm:=dS.trans (di.mono dS.size);have XG:=Ar Vl [46];have abM:=di.size;obtain ⟨w4,hu4,aaK,hg4,hs4⟩:=U6 Vl [46] (.int .i64 1);have abN:(Instr.mapUpdate 225 (.map (some mk)) (.string (bs [46])) (.int .i64 (max 0 1))).run prog w3=.ok () w4:=hu4;have XA:dG (uE w4 mk [46] (.int .i64 1)):=dH aaK;have Vn:=dH ((hg4.block mt (by omega) (by intro e;cases e;exact hkt rfl)).trans Zr);have fD:=dH (ef Vm hg4 Rf Vm.size);have uh:=dH iI;have HQ:=dH lN;have adh:mk < w4.heap.size:=by omega
 have d0:=jR.cell 0;have d1:=jR.cell 1;simp at d0 d1;clear xN hm2 iI lN jR di hmb Rk Vl Zr Vm dS aaK hg4 hs4 Zp Zq abM hu4;go_upto_region 5 with (fail);rw [<-uh.o,<-HQ.o];clear c0 c1;go_wp2_with fail;rw [rounds_succ];clear d0 d1 XG abN;go_wp2_with fail;refine (Ik.keys_any_si mk w4).mono ?_;rintro e w5 ⟨rfl,rfl⟩;have hq5:Boxed (w4.alloc (.cells #[.map (some mk)] 225)) w4.heap.size 225 (.map (some mk)):=Boxed.new w4 225 _;have eu:=dD w4 (.cells #[.map (some mk)] 225);obtain ⟨w5,gL⟩:=dB (w4.alloc (.cells #[.map (some mk)] 225));obtain ⟨q5,S9⟩:=dB w4.heap.size;rw [<-gL] at hq5 eu;rw [<-S9] at hq5;have EL:=dH (XA.o.below eu);have Vo:=dH ((eu.block mt (gQ Vn.o)).trans Vn.o);have fk:=dF fD eu;have O0:=dH (R2 [46] (.int .i64 1) (.func (.func 186) #[] #[]) mk q5 w5 EL.o hq5 (by rw [gL,S9];simp));have ug:=dH gL;have sg:=dH S9;clear hq5 eu gL S9 XA Vn fD;rw [<-ug.o,<-sg.o];go_wp2_with fail;refine O0.o.mono ?_;rintro e w6 ⟨g,c6,rfl,ho,hb⟩;obtain ⟨k0,k1,k2,k3,k4⟩:=DB ho;have HM6:=dH (EL.o.below hb);have Vp:=dH ((hb.block mt (gQ Vo.o)).trans Vo.o);have jc:=dF fk hb;clear ho hb O0 EL Vo fk k1 k2 k3 k4;go_wp2_with fail;refine wp_loop_rounds 2 ?_;rw [rounds_succ];have hl6:=HM6.o.look;have abO:(Instr.lookup 225 (.map (some mk)) (.string (bs [46])) false).run prog w6.drew=.ok (.int .i64 1) w6.drew:=(HM6.o.below (aC _ w6).drew).look;go_wp2_with fail;have yG:=dH (HM6.o.below (aC _ w6).drew);have hwd:dG (Below w6.heap.size w6 w6.drew):=dH (aC _ w6).drew;go_region_held3 (fun _=>True) (trivial)
  (first|(go_at_call 187;refine (U7 (.int .i64 1) mk _ yG.o).mono ?_;rintro e w7 ⟨rfl,hb⟩;have HM7:=dH (yG.o.below hb);have jl:=dF hwd hb;have Vq:=HM7.o.look;clear hb))
 all_goals
  clear hl6 abO k0;have Kf:dG (Blk (w7.alloc (.cells #[.int .i64 1,.string (bs [46])] 113)) w7.heap.size 113 #[.int .i64 1,.string (bs [46])]):=dH (Blk.new w7 113 _);have OV:dG (Below w7.heap.size w7 (w7.alloc (.cells #[.int .i64 1,.string (bs [46])] 113))):=dH ((aC _ w7).alloc (aB _) _);go_wp2_with (at_builtin;refine dU _ rfl (.tmp 56) (.tmp 62) 52 52 rfl 113 i0 (.agg #[.int .i64 0,.string ⟨#[]⟩]) 2 underlying52 HI.o j9.o gH.o rfl (by decide) rfl _ rfl 1 (by decide) [.int .i64 1,.string (bs [46])] (Src.rule Kf.o) (by decide) (by rw [iH.o];decide) ?_)
  intro EB w8 hown qV;have qO:=OV.o.trans (qV.mono (by simp));have Rm:=jc.o.trans (jl.o.mono jc.o.size);have Zs:=Rm.trans (qO.mono Rm.size);obtain ⟨G,hG⟩:=dB (w7.heap.size+1);rw [<-hG] at hown;have Rh:=dH (dN.mono (B':=w.heap.size) hown (by have:=Rm.size;omega));have Vr:=dH (((jl.o.trans (qO.mono jl.o.size)).block mt (gQ Vp.o)).trans Vp.o);have pG:=dH Zs;have HG:=dH hG;clear hown qV qO Rm Zs hG Vq HM7 yG hwd Vp jc jl Kf OV;rw [<-HG.o];go_wp2_with fail;rw [rounds_succ];go_wp2_with fail;refine (Ik.keys_any_sb mt w8).mono ?_;rintro e w9 ⟨rfl,rfl⟩;have xO:Boxed (w8.alloc (.cells #[.map (some mt)] 122)) w8.heap.size 122 (.map (some mt)):=Boxed.new w8 122 _;have Fz:=dD w8 (.cells #[.map (some mt)] 122);obtain ⟨w9,zj⟩:=dB (w8.alloc (.cells #[.map (some mt)] 122));obtain ⟨q9,BV⟩:=dB w8.heap.size;rw [<-zj] at xO Fz;rw [<-BV] at xO;have PF:=dH (R3 (.func (.func 186) #[] #[]) mt q9 w9 ((Fz.block mt (gQ Vr.o)).trans Vr.o) xO (by rw [zj,BV];simp));have PT:=dF pG Fz;have HR9:=dH (dN.below Rh.o Fz);have T8:=dH zj;have HQ9:=dH BV;clear xO Fz zj BV Vr pG Rh;rw [<-T8.o,<-HQ9.o];go_wp2_with fail;refine PF.o.mono ?_;rintro e Ku ⟨A,jt,rfl,hb⟩;have KM:=dF PT hb;have abP:=dH (dN.below HR9.o hb);clear hb PF;go_wp2_with fail;refine wp_loop_rounds 1 ?_;rw [rounds_succ];go_wp2_with fail;go_ret;exact ⟨G,EB,rfl,abP.o,KM.o⟩
end
section
open Go.RowKit
attribute [local go_sem] dO dL dQ dM
theorem YB (w:World):Calls prog 183 #[.int .i64 1] w (dJ w (.string (bs [119,105,116,104,32]))):=by
 have hi:(Instr.index 347 (.agg #[.string ⟨#[]⟩,.string ⟨#[119,105,116,104,32]⟩,.string ⟨#[119,105,116,104,111,117,116,32]⟩,.string ⟨#[116,121,112,101,32]⟩]) (.int .i64 1)).run prog w=.ok (.string (bs [119,105,116,104,32])) w:=by rfl
 go_enter func183,ntmps183;go_wp2_with fail;go_ret;exact ⟨rfl,aC _ _⟩
theorem U8 (w:World):Calls prog 182 #[rv] w (dJ w (.bool true)):=by
 have dR:=dD w (.cells #[.int .i64 1,.string (bs [46])] 113);have hq:=Blk.new w 113 #[.int .i64 1,.string (bs [46])];obtain ⟨w1,hw1⟩:=dB (w.alloc (.cells #[.int .i64 1,.string (bs [46])] 113));obtain ⟨q,lN⟩:=dB w.heap.size;rw [<-hw1] at hq dR;rw [<-lN] at hq;have a0:=hq.cell 0;have a1:=hq.cell 1;simp at a0 a1;have e0:(bs [46] ==(⟨#[46]⟩:ByteArray))=true:=by decide
 have HW:=dH hw1;have HQ:=dH lN;have HB:=dH dR;clear hw1 lN hq dR;go_enter func182,ntmps182;go_upto_region 1 with (fail);rw [<-HW.o,<-HQ.o];go_wp2_with fail;go_ret;exact ⟨rfl,HB.o⟩
structure FV (w W:World) (b0 q:Nat) (l:List UInt8):Prop where
 b:Below b0 w W
 bld:Pt.Bld W b0 b0 l
 q_:Blk W q 113 #[.int .i64 1,.string (bs [46])]
theorem FV.cells {w W:World} {b0 q:Nat} {l:List UInt8} (h:FV w W b0 q l):W.cell? ⟨q,0,none⟩=some (.int .i64 1)/\W.cell? ⟨q,1,none⟩=some (.string (bs [46])):=⟨h.q_.cell 0,h.q_.cell 1⟩
theorem FV.later {w W W':World} {b0 q:Nat} {l:List UInt8} (h:FV w W b0 q l) (h0:b0=w.heap.size) (hb:Below W.heap.size W W'):FV w W' b0 q l:=⟨h.b.trans (hb.mono (by have:=h.b.size;omega)),Pt.Bld.below h.bld hb,h.q_.below hb h.q_.lt⟩
theorem FV.wrote {w W W':World} {b0 q:Nat} {l l':List UInt8} (h:FV w W b0 q l) (hb:Below b0 W W') (jY:Pt.Bld W' b0 b0 l') (hk:Lib.OthersKept 5 (some b0) W W') (hq:q≠b0):FV w W' b0 q l':=
 ⟨h.b.trans hb,jY,hk q _ h.q_ (by intro e;cases e;exact hq rfl) (by intro c fz e;cases e)⟩
theorem FW (b off c:Nat) (w:World) (hlt:b < w.heap.size) (h0:w.cell? ⟨b,off,none⟩=some (.int .i64 1)) (h1:w.cell? ⟨b,off+1,none⟩=some (.string (bs [46]))):
  Calls prog 119 #[.slice (some ⟨b,off,none⟩) 1 c] w (dJ w (.tuple #[.string (bs [119,105,116,104,32,46,10]),.int .i64 0])):=by
 have iZ:=Pt.Bld.fresh w;have dR:=dD w (.cells #[.pointer none,.slice none 0 0] 261);obtain ⟨w1,hw1⟩:=dB (w.alloc (.cells #[.pointer none,.slice none 0 0] 261));obtain ⟨b0,hb0⟩:=dB w.heap.size;rw [<-hw1] at iZ dR;rw [<-hb0] at iZ dR;have c0:=(aI (a:=⟨b,off,none⟩) (dR.block b (by omega))).trans h0;have c1:=(aI (a:=⟨b,off+1,none⟩) (dR.block b (by omega))).trans h1;have iK:=Blk.new w1 113 #[.int .i64 1,.string (bs [46])];have dS:=dD w1 (.cells #[.int .i64 1,.string (bs [46])] 113);obtain ⟨w2,eV⟩:=dB (w1.alloc (.cells #[.int .i64 1,.string (bs [46])] 113));obtain ⟨q,hq⟩:=dB w1.heap.size;rw [<-eV] at iK dS;rw [<-hq] at iK;have H2:dG (FV w w2 b0 q []):=dH ⟨dR.trans (dS.mono (by have:=dR.size;omega)),Pt.Bld.below iZ dS,iK⟩;have hqb:q≠b0:=by have h1:b0 < w1.heap.size:=(by rw [hw1,hb0];simp);omega
 have wY:=dH hb0;have rG:=dH hw1;have pR:=dH eV;have HQ:=dH hq;have hsz:w.heap.size=b0:=hb0.symm;unfold dJ;rw [hsz];clear iZ dR hw1 iK dS eV hq hsz hb0 h0 h1 hlt;go_enter func119,ntmps119;go_upto_region 4 with (fail);rw [<-wY.o,<-rG.o];go_wp2_with fail;refine wp_loop_rounds 2 ?_;rw [rounds_succ];go_upto_region 7 with (fail);rw [<-HQ.o,<-pR.o];clear c0 c1;have a:=FV.cells H2.o;obtain ⟨a0,a1⟩:=a;go_wp2_with fail;refine (U8 _).mono ?_;rintro e w3 ⟨rfl,hb⟩;have H3:=dH (H2.o.later wY.o hb);clear hb H2 a0 a1;have a:=FV.cells H3.o;obtain ⟨a0,a1⟩:=a;have O8:bs [119,105,116,104,32]++bs [46]++(⟨#[10]⟩:ByteArray)=bs [119,105,116,104,32,46,10]:=rfl;have Zt:(bs [119,105,116,104,32]++bs [46])=bs [119,105,116,104,32,46]:=rfl;have Zu:bs [119,105,116,104,32,46]++(⟨#[10]⟩:ByteArray)=bs [119,105,116,104,32,46,10]:=rfl;have H3d:=dH (H3.o.later wY.o (aC _ w3).drew);go_wp2_with fail;go_region_held3 (fun w'=>w'.cell? ⟨q,0,none⟩=some (.int .i64 1)/\w'.cell? ⟨q,1,none⟩=some (.string (bs [46])))
  (with_reducible first|exact FV.cells H5.o|exact FV.cells H4.o|exact FV.cells H3d.o|exact FV.cells H3.o)
  (first
   |(go_at_call 183;refine (YB _).mono ?_;rintro e w4 ⟨rfl,hb⟩;have H4:=dH (H3d.o.later wY.o hb);clear hb)
   |(go_at_call 177;refine (Pt.write_any b0 b0 [] [119,105,116,104,32,46,10] _ H4.o.bld (by simp) (by have:=H4.o.b.size;have:=wY.o;omega)).mono ?_;rintro e w5 ⟨rfl,jY,hb,hk⟩;have H5:=dH (H4.o.wrote hb jY hk hqb);clear jY hb hk))
 all_goals
  rw [af] at H5;clear a0 a1 O8 Zt Zu H3 H3d H4;go_wp2_with fail;rw [rounds_succ];go_wp2_with fail;refine (Pt.string_any b0 b0 _ _ H5.o.bld (by have:=H5.o.b.size;have:=wY.o;omega)).mono ?_;rintro e w6 ⟨rfl,hb⟩;have jc:=dH (H5.o.b.trans hb);clear hb;go_wp2_with fail;go_ret2;exact ⟨rfl,jc.o⟩
theorem YC (w:World):Calls prog 242 #[rv] w (dJ w (.int .i64 (-1))):=by
 have dR:=dD w (.cells #[.int .i64 1,.string (bs [46])] 113);have hq:=Blk.new w 113 #[.int .i64 1,.string (bs [46])];obtain ⟨w1,hw1⟩:=dB (w.alloc (.cells #[.int .i64 1,.string (bs [46])] 113));obtain ⟨q,lN⟩:=dB w.heap.size;rw [<-hw1] at hq dR;rw [<-lN] at hq;have a1:=hq.cell 1;simp at a1;have e0:(bs [46] ==(⟨#[46]⟩:ByteArray))=true:=by decide
 have HW:=dH hw1;have HQ:=dH lN;have HB:=dH dR;clear hw1 lN hq dR;go_enter func242,ntmps242;go_upto_region 1 with (fail);rw [<-HW.o,<-HQ.o];go_wp2_with fail;go_ret;exact ⟨rfl,HB.o⟩
theorem YD (w:World):Calls prog 242 #[.agg #[.int .i64 0,.string ⟨#[]⟩]] w (dJ w (.int .i64 0)):=by
 have dR:=dD w (.cells #[.int .i64 0,.string ⟨#[]⟩] 113);have hq:=Blk.new w 113 #[.int .i64 0,.string ⟨#[]⟩];obtain ⟨w1,hw1⟩:=dB (w.alloc (.cells #[.int .i64 0,.string ⟨#[]⟩] 113));obtain ⟨q,lN⟩:=dB w.heap.size;rw [<-hw1] at hq dR;rw [<-lN] at hq;have a1:=hq.cell 1;simp at a1;have HW:=dH hw1;have HQ:=dH lN;have HB:=dH dR;clear hw1 lN hq dR;go_enter func242,ntmps242;go_upto_region 1 with (fail);rw [<-HW.o,<-HQ.o];go_wp2_with fail;go_ret;exact ⟨rfl,HB.o⟩
structure Gy (w W:World) (z t q:Nat):Prop where
 b:Below w.heap.size w W
 z_:Blk W z 113 #[.int .i64 0,.string ⟨#[]⟩]
 t_:Blk W t 113 #[.int .i64 0,.string ⟨#[]⟩]
 q_:Blk W q 113 #[.int .i64 1,.string (bs [46])]
theorem Gy.later {w W W':World} {z t q:Nat} (h:Gy w W z t q) (hb:Below W.heap.size W W'):Gy w W' z t q:=⟨h.b.trans (hb.mono h.b.size),h.z_.below hb h.z_.lt,h.t_.below hb h.t_.lt,h.q_.below hb h.q_.lt⟩
theorem Gy.cells {w W:World} {z t q:Nat} (h:Gy w W z t q):W.cell? ⟨q,0,none⟩=some (.int .i64 1)/\W.cell? ⟨q,1,none⟩=some (.string (bs [46]))/\W.cell? ⟨t,0,none⟩=some (.int .i64 0)/\W.cell? ⟨t,1,none⟩=some (.string ⟨#[]⟩):=⟨h.q_.cell 0,h.q_.cell 1,h.t_.cell 0,h.t_.cell 1⟩
theorem Az (p:List UInt8) (b off c:Nat) (w:World) (hlt:b < w.heap.size) (h0:w.cell? ⟨b,off,none⟩=some (.int .i64 1)) (h1:w.cell? ⟨b,off+1,none⟩=some (.string (bs [46]))):
  Calls prog 165 #[.slice (some ⟨b,off,none⟩) 1 c,.string (bs p)] w (dJ w rv):=by
 have hwi:lS p [46]=true:=by unfold lS;simp
 have Zv:=dH (fun w=>wB p [46] (by simp) w);rw [hwi] at Zv;have hz2:Blk ((w.alloc (.cells #[.int .i64 0,.string ⟨#[]⟩] 113)).alloc (.cells #[.int .i64 0,.string ⟨#[]⟩] 113)) w.heap.size 113 #[.int .i64 0,.string ⟨#[]⟩]:=(Blk.new w 113 _).alloc _;have ht2:Blk ((w.alloc (.cells #[.int .i64 0,.string ⟨#[]⟩] 113)).alloc (.cells #[.int .i64 0,.string ⟨#[]⟩] 113)) (w.heap.size+1) 113 #[.int .i64 0,.string ⟨#[]⟩]:=by
  have:=Blk.new (w.alloc (.cells #[.int .i64 0,.string ⟨#[]⟩] 113)) 113 #[.int .i64 0,.string ⟨#[]⟩]
  rwa [show (w.alloc (.cells #[.int .i64 0,.string ⟨#[]⟩] 113)).heap.size=w.heap.size+1 from aZ _] at this
 have dS:Below w.heap.size w ((w.alloc (.cells #[.int .i64 0,.string ⟨#[]⟩] 113)).alloc (.cells #[.int .i64 0,.string ⟨#[]⟩] 113)):=((aC _ w).alloc (aB _) _).alloc (by simp) _;obtain ⟨w2,eV⟩:=dB ((w.alloc (.cells #[.int .i64 0,.string ⟨#[]⟩] 113)).alloc (.cells #[.int .i64 0,.string ⟨#[]⟩] 113));obtain ⟨t,ht⟩:=dB (w.heap.size+1);obtain ⟨z,hz⟩:=dB w.heap.size;rw [<-eV] at hz2 ht2 dS;rw [<-ht] at ht2;rw [<-hz] at hz2;have hzt:z≠t:=by omega
 have hzw:w.heap.size<=z:=by omega
 have Ks:w.heap.size<=t:=by omega
 have c0:=(aI (a:=⟨b,off,none⟩) (dS.block b hlt)).trans h0;have c1:=(aI (a:=⟨b,off+1,none⟩) (dS.block b hlt)).trans h1;have jR:=Blk.new w2 113 #[.int .i64 1,.string (bs [46])];have di:=dD w2 (.cells #[.int .i64 1,.string (bs [46])] 113);obtain ⟨w3,iI⟩:=dB (w2.alloc (.cells #[.int .i64 1,.string (bs [46])] 113));obtain ⟨q,hq⟩:=dB w2.heap.size;rw [<-iI] at jR di;rw [<-hq] at jR;have hqt:q≠t:=by have:=ht2.lt;omega
 have H3:dG (Gy w w3 z t q):=dH ⟨dS.trans (di.mono dS.size),hz2.below di hz2.lt,ht2.below di ht2.lt,jR⟩;have pR:=dH eV;have HT:=dH ht;have HZ:=dH hz;have uh:=dH iI;have HQ:=dH hq;clear hz2 ht2 dS eV ht hz jR di iI hq h0 h1 hwi;go_enter func165,ntmps165;go_upto_region 2 with (fail);rw [<-HT.o,<-HZ.o,<-pR.o];go_wp2_with fail;refine wp_loop_rounds 2 ?_;rw [rounds_succ];go_upto_region 5 with (fail);rw [<-HQ.o,<-uh.o];clear c0 c1;obtain ⟨a0,a1,-,-⟩:=H3.o.cells;go_wp2_with fail;refine (Zv.o _).mono ?_;rintro e w4 ⟨rfl,hb⟩;have H4:=dH (H3.o.later hb);have H4d:=dH (H4.o.later (aC _ w4).drew);clear hb a0 a1 H3;go_wp2_with fail;go_region_held3 (fun w'=>w'.cell? ⟨q,0,none⟩=some (.int .i64 1)/\w'.cell? ⟨q,1,none⟩=some (.string (bs [46]))/\w'.cell? ⟨t,0,none⟩=some (.int .i64 0)/\w'.cell? ⟨t,1,none⟩=some (.string ⟨#[]⟩))
  (with_reducible first|exact Gy.cells H6.o|exact Gy.cells H5.o|exact Gy.cells H4d.o|exact Gy.cells H4.o)
  (first
   |(go_at_call 242;refine (YC _).mono ?_;rintro e w5 ⟨rfl,hb⟩;have H5:dG (Gy w w5 z t q):=dH (Gy.later (by with_reducible first|exact H6.o|exact H4d.o) hb);clear hb)
   |(go_at_call 242;refine (YD _).mono ?_;rintro e w6 ⟨rfl,hb⟩;have H6:dG (Gy w w6 z t q):=dH (Gy.later (by with_reducible first|exact H5.o|exact H4d.o) hb);clear hb))
 ·obtain ⟨a0,a1,a2,a3⟩:=H6.o.cells
  have g0:=H6.o.t_.frozen 0;have g1:=H6.o.t_.frozen 1;have k7:dY (fun i=>i=t) w6 ((w6.setCell ⟨t,0,none⟩ (.int .i64 1)).setCell ⟨t,1,none⟩ (.string (bs [46]))):=de (S:=fun i=>i=t) (de (S:=fun i=>i=t) (eX (fun i=>i=t) w6) ⟨t,0,none⟩ _ (fun _=>rfl)) ⟨t,1,none⟩ _ (fun _=>rfl);have ht7:=(H6.o.t_.set_ 0 (.int .i64 1)).set_ 1 (.string (bs [46]));simp only [aH,aD,aF] at ht7;have sV:=dH ht7;have XH:=dH (H6.o.z_.kp k7 hzt);have jl:=dH (eS H6.o.b k7 (fun i hi=>by rw [hi];exact Ks) H6.o.b.size);obtain ⟨w7,nK⟩:=dB ((w6.setCell ⟨t,0,none⟩ (.int .i64 1)).setCell ⟨t,1,none⟩ (.string (bs [46])));rw [<-nK] at sV XH jl;have GD:=dH nK;clear k7 ht7 nK;go_upto_region 9 with (fail);rw [<-GD.o];clear a0 a1 a2 a3 g0 g1;go_wp2_with fail;rw [rounds_succ];have a0:=sV.o.cell 0;have a1:=sV.o.cell 1;have b0:=XH.o.cell 0;have b1:=XH.o.cell 1;have g0:=XH.o.frozen 0;have g1:=XH.o.frozen 1;simp at a0 a1 b0 b1;have k8:dY (fun i=>i=z) w7 ((w7.setCell ⟨z,0,none⟩ (.int .i64 1)).setCell ⟨z,1,none⟩ (.string (bs [46]))):=de (S:=fun i=>i=z) (de (S:=fun i=>i=z) (eX (fun i=>i=z) w7) ⟨z,0,none⟩ _ (fun _=>rfl)) ⟨z,1,none⟩ _ (fun _=>rfl);have hz8:=(XH.o.set_ 0 (.int .i64 1)).set_ 1 (.string (bs [46]));have d0:=hz8.cell 0;have d1:=hz8.cell 1;simp at d0 d1;have pG:=dH (eS jl.o k8 (fun i hi=>by rw [hi];exact hzw) jl.o.size);clear k8 hz8;go_wp2_with fail;exact bodyPost_ret (v:=rv) (by simp [results,results165,go_sem,d0,d1]) rfl ⟨rfl,pG.o⟩
theorem U9 (w:World):Calls prog 167 #[rv] w (dJ w (.bool false)):=by
 have dR:=dD w (.cells #[.int .i64 1,.string (bs [46])] 113);have hq:=Blk.new w 113 #[.int .i64 1,.string (bs [46])];obtain ⟨w1,hw1⟩:=dB (w.alloc (.cells #[.int .i64 1,.string (bs [46])] 113));obtain ⟨q,lN⟩:=dB w.heap.size;rw [<-hw1] at hq dR;rw [<-lN] at hq;have a0:=hq.cell 0;simp at a0;have HW:=dH hw1;have HQ:=dH lN;have HB:=dH dR;clear hw1 lN hq dR;go_enter func167,ntmps167;go_upto_region 1 with (fail);rw [<-HW.o,<-HQ.o];go_wp2_with fail;go_ret;exact ⟨rfl,HB.o⟩
theorem R6 (b off c:Nat) (w:World) (h0:w.cell? ⟨b,off,none⟩=some (.int .i64 1)) (h1:w.cell? ⟨b,off+1,none⟩=some (.string (bs [46]))):
  Calls prog 243 #[.slice (some ⟨b,off,none⟩) 1 c,.func (.func 167) #[] #[]] w (dJ w (.int .i64 (-1))):=by
 go_enter func243,ntmps243;go_wp2_with fail;refine wp_loop_rounds 2 ?_;rw [rounds_succ];go_wp2_with fail;refine (U9 _).mono ?_;rintro e w1 ⟨rfl,hb⟩;have HB:=dH hb;clear hb;go_wp2_with fail;rw [rounds_succ];go_wp2_with fail;go_ret;exact ⟨rfl,HB.o⟩
theorem N8 (b off c:Nat) (w:World) (h0:w.cell? ⟨b,off,none⟩=some (.int .i64 1)) (h1:w.cell? ⟨b,off+1,none⟩=some (.string (bs [46]))):
  Calls prog 166 #[.slice (some ⟨b,off,none⟩) 1 c,.func (.func 167) #[] #[]] w (dJ w (.bool false)):=by
 have HI:=dH (R6 b off c w h0 h1);clear h0 h1;go_enter func166,ntmps166;go_wp2_with fail;refine HI.o.mono ?_;rintro e w1 ⟨rfl,hb⟩;have HB:=dH hb;clear hb;go_wp2_with fail;go_ret;exact ⟨rfl,HB.o⟩
theorem FX (p:List UInt8) (d:Bool) (b off c:Nat) (w:World) (hlt:b < w.heap.size) (h0:w.cell? ⟨b,off,none⟩=some (.int .i64 1)) (h1:w.cell? ⟨b,off+1,none⟩=some (.string (bs [46]))):
  Calls prog 112 #[.slice (some ⟨b,off,none⟩) 1 c,.string (bs p),.bool d] w (dJ w (.bool true)):=by
 have HD:=dH (Az p b off c w hlt h0 h1);have HT:dG (∀w',Below w.heap.size w w'->Calls prog 166 #[.slice (some ⟨b,off,none⟩) 1 c,.func (.func 167) #[] #[]] w' fun e w''=>e=.returned (.bool false)/\Below w'.heap.size w' w''):=dH (fun w' hb=>N8 b off c w' ((aI (a:=⟨b,off,none⟩) (hb.block b hlt)).trans h0) ((aI (a:=⟨b,off+1,none⟩) (hb.block b hlt)).trans h1));clear h0 h1;go_enter func112,ntmps112;go_wp2_with fail;refine HD.o.mono ?_;rintro e w1 ⟨rfl,hb⟩;have HB:=dH hb;clear hb;unfold rv;have abQ:(Instr.field 113 (.agg #[.int .i64 1,.string (bs [46])]) 0).run prog w1=.ok (.int .i64 1) w1:=by rfl
 go_wp2_with fail;clear abQ;refine (HT.o _ HB.o).mono ?_;rintro e w2 ⟨rfl,hb⟩;have eG:=dF HB hb;clear hb;cases d
 ·go_wp2_with fail
  go_ret;exact ⟨rfl,eG.o⟩
 ·go_wp2_with fail
  go_ret;exact ⟨rfl,eG.o⟩
end
end Go.Proofs.YtgdaahffmcfhpaaGreatDoor
