/- Lemmas on the way: Da Db Dc Dd. -/
import Derived.Test.YtgdaahffmcfhpaaGreatDoorT46
import Derived.Test.YtgdaahffmcfhpaaGreatDoorT47
import Derived.Test.YtgdaahffmcfhpaaGreatDoorT00
set_option maxRecDepth 100000
set_option maxHeartbeats 8000000
namespace Go.Proofs.YtgdaahffmcfhpaaGreatDoor
open Tryz
section
open Go.RowKit
attribute [local go_sem] dO dL dQ dM
structure Cx where
 C:Nat
 gN:Nat
 gA:Nat
 cA:Nat
 a0:Nat
 a1:Nat
 D0:Nat
 D1:Nat
 u0:Value
 u1:Value
 u2:Value
 v0:Value
 v1:Value
 v2:Value
def YO (x:Cx) (i:Nat):Prop:=i=x.C\/i=x.gA\/i=x.a0\/i=x.a1
structure mV (w:World) (x:Cx) (F0 F1:BS) (v:Value) (L0:List dV) (P0:List (List UInt8)) (L1:List dV) (P1:List (List UInt8)) (ps:List Nt.Pk) (n:Nat):Prop where
 c_:Blk w x.C 128 #[.slice (some ⟨x.gA,0,none⟩) 2 x.cA,.pointer (some ⟨x.gN,0,none⟩)]
 rl:x.gA < w.heap.size
 r0:w.cell? ⟨x.gA,0,none⟩=some (.pointer (some ⟨x.a0,0,none⟩))
 r1:w.cell? ⟨x.gA,1,none⟩=some (.pointer (some ⟨x.a1,0,none⟩))
 cA:2<=x.cA/\x.cA<=9223372036854775807
 o0:Blk w x.a0 136 #[.int .i64 0,.pointer (some ⟨x.D0,0,none⟩),x.u0,x.u1,x.u2]
 o1:Blk w x.a1 136 #[.int .i64 1,.pointer (some ⟨x.D1,0,none⟩),x.v0,x.v1,x.v2]
 d0:fA w F0 x.D0 0 L0 P0
 d1:fA w F1 x.D1 1 L1 P1
 net:Nt.NetI w x.gN 2 (n:Nat) v ps
 a01:jV F0 F1
 a0N:jV F0 (Nt.NS x.gN v)
 a1N:jV F1 (Nt.NS x.gN v)
 t0:∀i,YO x i->¬ F0 i
 t1:∀i,YO x i->¬ F1 i
 tN:∀i,YO x i->¬ Nt.NS x.gN v i
section
variable {w w':World} {x:Cx} {F0 F1 TI Wd:BS} {v v':Value} {L0 L1 XQ Rx:List dV} {P0 P1 XR Ry:List (List UInt8)} {ps ps':List Nt.Pk} {n n':Nat}
theorem oN (h:Nt.NetI w x.gN 2 (n:Nat) v ps):P6 (Nt.NS x.gN v) w:=fun i hi=>by
 rcases hi with rfl|hi
 ·exact h.lt
 ·exact Nt.own_lt h.own hi
theorem mV.bT (h:mV w x F0 F1 v L0 P0 L1 P1 ps n):∀i,YO x i->i < w.heap.size:=fun i hi=>by
 rcases hi with rfl|rfl|rfl|rfl
 ·exact h.c_.lt
 ·exact h.rl
 ·exact h.o0.lt
 ·exact h.o1.lt
theorem mV.st {S:BS} (h:mV w x F0 F1 v L0 P0 L1 P1 ps n) (k:dY S w w') (hn:∀i,YO x i->¬ S i):
  Blk w' x.C 128 #[.slice (some ⟨x.gA,0,none⟩) 2 x.cA,.pointer (some ⟨x.gN,0,none⟩)]/\x.gA < w'.heap.size/\w'.cell? ⟨x.gA,0,none⟩=some (.pointer (some ⟨x.a0,0,none⟩))/\w'.cell? ⟨x.gA,1,none⟩=some (.pointer (some ⟨x.a1,0,none⟩))/\
   Blk w' x.a0 136 #[.int .i64 0,.pointer (some ⟨x.D0,0,none⟩),x.u0,x.u1,x.u2]/\Blk w' x.a1 136 #[.int .i64 1,.pointer (some ⟨x.D1,0,none⟩),x.v0,x.v1,x.v2]:=
 ⟨h.c_.kp k (hn _ (.inl rfl)),aN h.rl k.size,(aI (a:=⟨x.gA,0,none⟩) (k.block _ h.rl (hn _ (.inr (.inl rfl))))).trans h.r0,(aI (a:=⟨x.gA,1,none⟩) (k.block _ h.rl (hn _ (.inr (.inl rfl))))).trans h.r1,
  h.o0.kp k (hn _ (.inr (.inr (.inl rfl)))),h.o1.kp k (hn _ (.inr (.inr (.inr rfl))))⟩
theorem mV.stepD0 (h:mV w x F0 F1 v L0 P0 L1 P1 ps n) (hd:fA w' TI x.D0 0 XQ XR) (st:gT F0 TI w w'):mV w' x TI F1 v XQ XR L1 P1 ps n:=by
 obtain ⟨s1,s2,s3,s4,s5,s6⟩:=h.st st.keeps h.t0;exact ⟨s1,s2,s3,s4,h.cA,s5,s6,hd,h.d1.kp st.keeps (fun i hi h'=>h.a01 i h' hi),h.net.kp st.keeps (fun i hi=>h.a0N i hi),h.a01.gro st.gro h.d1.bnd,h.a0N.gro st.gro (oN h.net),h.a1N,
  fun i hi hF=>by
   rcases st.gro i hF with h1|h1
   ·exact h.t0 i hi h1
   ·have:=h.bT i hi;omega,h.t1,h.tN⟩
theorem mV.stepD1 (h:mV w x F0 F1 v L0 P0 L1 P1 ps n) (hd:fA w' Wd x.D1 1 Rx Ry) (st:gT F1 Wd w w'):mV w' x F0 Wd v L0 P0 Rx Ry ps n:=by
 obtain ⟨s1,s2,s3,s4,s5,s6⟩:=h.st st.keeps h.t1;exact ⟨s1,s2,s3,s4,h.cA,s5,s6,h.d0.kp st.keeps h.a01,hd,h.net.kp st.keeps (fun i hi=>h.a1N i hi),(h.a01.symm.gro st.gro h.d0.bnd).symm,h.a0N,h.a1N.gro st.gro (oN h.net),h.t0,
  fun i hi hF=>by
   rcases st.gro i hF with h1|h1
   ·exact h.t1 i hi h1
   ·have:=h.bT i hi;omega,h.tN⟩
theorem mV.stepN (h:mV w x F0 F1 v L0 P0 L1 P1 ps n) (hn:Nt.NetI w' x.gN 2 (n':Nat) v' ps') (k:dY (Nt.NS x.gN v) w w') (hv:v'.ownBlock=v.ownBlock\/∃g,v'.ownBlock=some g/\w.heap.size<=g):mV w' x F0 F1 v' L0 P0 L1 P1 ps' n':=by
 obtain ⟨s1,s2,s3,s4,s5,s6⟩:=h.st k h.tN;have gro:Li (Nt.NS x.gN v) (Nt.NS x.gN v') w:=fun i hi=>by
  rcases hi with hi|hi
  ·exact .inl (.inl hi)
  ·rcases hv with hv| ⟨g,hg,hge⟩
   ·exact .inl (.inr (by rw [<-hv];exact hi))
   ·rw [hg] at hi;cases hi;exact .inr hge
 exact ⟨s1,s2,s3,s4,h.cA,s5,s6,h.d0.kp k h.a0N,h.d1.kp k h.a1N,hn,h.a01,(h.a0N.symm.gro gro h.d0.bnd).symm,(h.a1N.symm.gro gro h.d1.bnd).symm,h.t0,h.t1,
  fun i hi hF=>by
   rcases gro i hF with h1|h1
   ·exact h.tN i hi h1
   ·have:=h.bT i hi;omega⟩
def CU (x:Cx) (F0 F1:BS) (v:Value) (i:Nat):Prop:=F0 i\/F1 i\/Nt.NS x.gN v i
theorem CU.stp0 (st:gT F0 TI w w'):gT (CU x F0 F1 v) (CU x TI F1 v) w w':=⟨mh st.keeps (fun _ _ h=>.inl h),fun i hi=>by
 rcases hi with h|h|h
 ·rcases st.gro i h with h1|h1
  ·exact .inl (.inl h1)
  ·exact .inr h1
 ·exact .inl (.inr (.inl h))
 ·exact .inl (.inr (.inr h))⟩
theorem CU.stp1 (st:gT F1 Wd w w'):gT (CU x F0 F1 v) (CU x F0 Wd v) w w':=⟨mh st.keeps (fun _ _ h=>.inr (.inl h)),fun i hi=>by
 rcases hi with h|h|h
 ·exact .inl (.inl h)
 ·rcases st.gro i h with h1|h1
  ·exact .inl (.inr (.inl h1))
  ·exact .inr h1
 ·exact .inl (.inr (.inr h))⟩
theorem CU.stpN (k:dY (Nt.NS x.gN v) w w') (hv:v'.ownBlock=v.ownBlock\/∃g,v'.ownBlock=some g/\w.heap.size<=g):gT (CU x F0 F1 v) (CU x F0 F1 v') w w':=⟨mh k (fun _ _ h=>.inr (.inr h)),fun i hi=>by
 rcases hi with h|h|h|h
 ·exact .inl (.inl h)
 ·exact .inl (.inr (.inl h))
 ·exact .inl (.inr (.inr (.inl h)))
 ·rcases hv with hv| ⟨g,hg,hge⟩
  ·exact .inl (.inr (.inr (.inr (by rw [<-hv];exact h))))
  ·rw [hg] at h;cases h;exact .inr hge⟩
theorem CU.bnd (h:mV w x F0 F1 v L0 P0 L1 P1 ps n):P6 (CU x F0 F1 v) w:=fun i hi=>by
 rcases hi with h1|h1|h1
 ·exact h.d0.bnd i h1
 ·exact h.d1.bnd i h1
 ·exact oN h.net i h1
theorem mV.later (h:mV w x F0 F1 v L0 P0 L1 P1 ps n) (hb:Below w.heap.size w w'):mV w' x F0 F1 v L0 P0 L1 P1 ps n:=h.stepD0 (h.d0.later hb) (gT.below _ hb)
end
def Cl (w0:World) (U0:BS) (w:World) (x:Cx) (L0:List dV) (P0:List (List UInt8)) (L1:List dV) (P1:List (List UInt8)) (ps:List Nt.Pk) (n:Nat):Prop:=∃F0 F1 v,mV w x F0 F1 v L0 P0 L1 P1 ps n/\gT U0 (CU x F0 F1 v) w0 w
theorem Cl.later {w0:World} {U0:BS} {w w':World} {x:Cx} {L0 L1:List dV} {P0 P1:List (List UInt8)} {ps:List Nt.Pk} {n:Nat} (h:Cl w0 U0 w x L0 P0 L1 P1 ps n) (hb:Below w.heap.size w w'):Cl w0 U0 w' x L0 P0 L1 P1 ps n:=by
 obtain ⟨F0,F1,v,h,hs⟩:=h;exact ⟨F0,F1,v,h.later hb,hs.then_ hb⟩
structure Wq (w:World) (x:Cx):Prop where
 c0:w.cell? ⟨x.C,0,none⟩=some (.slice (some ⟨x.gA,0,none⟩) 2 x.cA)
 c1:w.cell? ⟨x.C,1,none⟩=some (.pointer (some ⟨x.gN,0,none⟩))
 r0:w.cell? ⟨x.gA,0,none⟩=some (.pointer (some ⟨x.a0,0,none⟩))
 r1:w.cell? ⟨x.gA,1,none⟩=some (.pointer (some ⟨x.a1,0,none⟩))
 o0:w.cell? ⟨x.a0,1,none⟩=some (.pointer (some ⟨x.D0,0,none⟩))
 o1:w.cell? ⟨x.a1,1,none⟩=some (.pointer (some ⟨x.D1,0,none⟩))
theorem mV.cells {w:World} {x:Cx} {F0 F1:BS} {v:Value} {L0 L1:List dV} {P0 P1:List (List UInt8)} {ps:List Nt.Pk} {n:Nat} (h:mV w x F0 F1 v L0 P0 L1 P1 ps n):Wq w x:=⟨h.c_.cell 0,h.c_.cell 1,h.r0,h.r1,h.o0.cell 1,h.o1.cell 1⟩
theorem Cl.cells {w0:World} {U0:BS} {w:World} {x:Cx} {L0 L1:List dV} {P0 P1:List (List UInt8)} {ps:List Nt.Pk} {n:Nat} (h:Cl w0 U0 w x L0 P0 L1 P1 ps n):Wq w x:=by
 obtain ⟨F0,F1,v,h,-⟩:=h;exact h.cells
theorem Cl.stp {w0:World} {U0:BS} {w:World} {x:Cx} {L0 L1:List dV} {P0 P1:List (List UInt8)} {ps:List Nt.Pk} {n:Nat} (h:Cl w0 U0 w x L0 P0 L1 P1 ps n):dY U0 w0 w:=by
 obtain ⟨F0,F1,v,h,hs⟩:=h;exact hs.keeps
theorem at0 {w0:World} {U0:BS} {w:World} {x:Cx} {L0 L1:List dV} {P0 P1:List (List UInt8)} {ps:List Nt.Pk} {n:Nat} (h:Cl w0 U0 w x L0 P0 L1 P1 ps n):
  Calls prog 69 #[.pointer (some ⟨x.C,0,none⟩),.int .i64 0] w fun e w'=>e=.returned (.tuple #[.pointer (some ⟨x.a0,0,none⟩),.int .i64 0])/\w=w':=by
 obtain ⟨c0,c1,r0,r1,o0,o1⟩:=h.cells;clear h;go_enter func69,ntmps69;go_wp2_with fail;go_ret2;exact ⟨rfl,rfl⟩
theorem at1 {w0:World} {U0:BS} {w:World} {x:Cx} {L0 L1:List dV} {P0 P1:List (List UInt8)} {ps:List Nt.Pk} {n:Nat} (h:Cl w0 U0 w x L0 P0 L1 P1 ps n):
  Calls prog 69 #[.pointer (some ⟨x.C,0,none⟩),.int .i64 1] w fun e w'=>e=.returned (.tuple #[.pointer (some ⟨x.a1,0,none⟩),.int .i64 0])/\w=w':=by
 obtain ⟨c0,c1,r0,r1,o0,o1⟩:=h.cells;clear h;go_enter func69,ntmps69;go_wp2_with fail;go_ret2;exact ⟨rfl,rfl⟩
theorem RE {w0:World} {U0:BS} {w:World} {x:Cx} {L0 L1:List dV} {P0 P1:List (List UInt8)} {ps:List Nt.Pk} {n:Nat} (h:Cl w0 U0 w x L0 P0 L1 P1 ps n):
  Calls prog 29 #[.pointer (some ⟨x.C,0,none⟩),.int .i64 1] w fun e w'=>e=.returned (.pointer (some ⟨x.D1,0,none⟩))/\w=w':=by
 have HA:=dH (at1 h);obtain ⟨c0,c1,r0,r1,o0,o1⟩:=h.cells;clear h;go_enter func29,ntmps29;go_wp2_with fail;refine HA.o.mono ?_;rintro e w1 ⟨rfl,rfl⟩;go_wp2_with fail;go_ret;exact ⟨rfl,rfl⟩
end
section
open Go.RowKit
attribute [local go_sem] dO dL dQ dM
theorem jP {w0:World} {U0:BS} {w:World} {x:Cx} {L0 L1:List dV} {P0 P1:List (List UInt8)} {ps:List Nt.Pk} {n:Nat} (h:Cl w0 U0 w x L0 P0 L1 P1 ps n) (m0 m1:List UInt8) (h0:ew w 77 #[.pointer (some ⟨x.D0,0,none⟩)] (.string (bs m0))) (h1:ew w 77 #[.pointer (some ⟨x.D1,0,none⟩)] (.string (bs m1))):
  Calls prog 80 #[.pointer (some ⟨x.C,0,none⟩)] w fun e w'=>∃g c,e=.returned (.slice (some ⟨g,0,none⟩) 2 c)/\dN w' w.heap.size 1 (.slice (some ⟨g,0,none⟩) 2 c) 2 [.string (bs m0),.string (bs m1)]/\Below w.heap.size w w':=by
 obtain ⟨c0,c1,r0,r1,o0,o1⟩:=h.cells;have H:=dH h;have H0:=dH h0;have H1:=dH h1;obtain ⟨j0,hj,hy0,hy1,hy2⟩:=info_parts Ik.info9s;have HJ:=dH hj;have uo:=dH hy0;have zc:=dH hy1;have ze:=dH hy2;clear hj hy0 hy1 hy2 h h0 h1;go_enter func80,ntmps80;go_wp2_with fail;refine wp_loop_rounds 3 ?_;rw [rounds_succ];go_wp2_with fail;refine (H0.o _ (aC _ _)).mono ?_;rintro e w1 ⟨rfl,dR⟩;have eH:=dH dR;clear dR c0 c1 r0 r1 o0 o1;go_wp2_with (at_builtin;refine dU _ rfl (.tmp 15) (.tmp 21) 99 99 rfl 9 j0 (.string ⟨#[]⟩) 1 underlying99 HJ.o uo.o zc.o rfl (by decide) rfl _ rfl 1 (by decide) [.string (bs m0)] (Src.one underlying99 (by simp [go_sem]) rfl) (by decide) (by rw [ze.o];decide) ?_)
 intro cap w2 hown dS;have KI:Below w1.heap.size w1 w2:=((aC _ _).alloc (aB _) _).trans (dS.mono (by simp));obtain ⟨G,hG⟩:=dB (w1.heap.size+1);rw [<-hG] at hown;have yD:=dH (dN.mono (B':=w.heap.size) hown (by have:=eH.o.size;omega));have eG:=dF eH KI;have HG:=dH hG;clear hown dS KI hG eH;rw [<-HG.o];obtain ⟨c0,c1,r0,r1,o0,o1⟩:=(H.o.later eG.o).cells;go_wp2_with fail;rw [rounds_succ];go_wp2_with fail;refine (H1.o _ eG.o).mono ?_;rintro e w3 ⟨rfl,di⟩;have pE:=dH (dN.below yD.o di);have dw:=dF eG di;have hGw:w.heap.size<=G:=(dN.ge yD.o G rfl).1;clear di c0 c1 r0 r1 o0 o1 yD eG;go_wp2_with (at_builtin;refine dZ _ rfl (.tmp 15) (.tmp 21) 99 99 rfl 9 j0 (.string ⟨#[]⟩) 1 underlying99 HJ.o uo.o zc.o rfl (by decide) w.heap.size _ 1 [.string (bs m0)] rfl (dN.alloc pE.o _) _ rfl 1 [.string (bs m1)] (Src.one underlying99 (by simp [go_sem]) rfl) (by decide) (by rw [ze.o];decide) (by have:=dw.o.size;simp;omega) ?_)
 intro v4 w4 hown oy gE;obtain ⟨G4,WJ,rfl,-,-,-,-,-,-⟩:=hown.form (by decide);have Rc:dY (fun i=>i=G) w3 w4:=eB (ql (eX _ _) _) (ep (S:=fun i=>i=G) oy (fun i hi=>by cases hi;rfl)) (fun _ _ h=>h);have fD:=dH (eS dw.o Rc (fun i hi=>by rw [hi];exact hGw) dw.o.size);have sU:=dH hown;obtain ⟨c0,c1,r0,r1,o0,o1⟩:=(H.o.later fD.o).cells;clear hown oy gE Rc pE dw;go_wp2_with fail;rw [rounds_succ];go_wp2_with fail;go_ret;exact ⟨G4,WJ,rfl,sU.o,fD.o⟩
theorem Fq {w:World} {g c g' c':Nat} {a b a' b':List UInt8} (h:w.cell? ⟨g,0,none⟩=some (.string (bs a))/\w.cell? ⟨g,1,none⟩=some (.string (bs b))) (h':w.cell? ⟨g',0,none⟩=some (.string (bs a'))/\w.cell? ⟨g',1,none⟩=some (.string (bs b'))) (r:Bool) (hr:r=decide (a=a'/\b=b')):
  Calls prog 82 #[.slice (some ⟨g,0,none⟩) 2 c,.slice (some ⟨g',0,none⟩) 2 c'] w (dJ w (.bool r)):=by
 refine (slices_Equal_string g 0 2 c g' 0 2 c' [bs a,bs b] [bs a',bs b'] w (by simp) (by simp) (by decide) (by decide) ?_ ?_).mono ?_
 ·intro j hj
  have:j=0\/j=1:=by simp at hj;omega
  rcases this with rfl|rfl
  ·exact h.1
  ·exact h.2
 ·intro j hj
  have:j=0\/j=1:=by simp at hj;omega
  rcases this with rfl|rfl
  ·exact h'.1
  ·exact h'.2
 ·rintro e w' ⟨rfl,q,rfl⟩
  refine ⟨?_,below_drewN (aC _ w) q⟩;rw [hr];have inj:∀p q:List UInt8,bs p=bs q↔p=q:=fun p q=> ⟨fun h=>by have:=congrArg (fun z=>z.data.toList) h;simpa [bs] using this,fun h=>by rw [h]⟩
  have e:decide (([bs a,bs b]:List ByteArray).take 2=[bs a',bs b'].take 2)=decide (a=a'/\b=b'):=by
   apply decide_eq_decide.2;simp [inj]
  rw [e]
end
section
open Go.RowKit
attribute [local go_sem] dO dL dQ dM
section
variable {w0:World} {U0:BS} {w:World} {x:Cx} {L0 L1:List dV} {P0 P1:List (List UInt8)} {ps:List Nt.Pk} {n:Nat}
theorem wT {F0 F1:BS} {v:Value} (h:mV w x F0 F1 v L0 P0 L1 P1 ps n) (pk:Nt.Pk) (hf:0<=pk.f/\pk.f < 2) (ht:0<=pk.t/\pk.t < 2) (hne:pk.f≠pk.t) (hd:pk.d.length<=60000) (hp:ps.length < 500) (hn:n<=1000):
  Calls prog 76 #[.pointer (some ⟨x.gN,0,none⟩),Nt.pv pk] w fun e w'=>∃v',e=.returned (.int .i64 0)/\mV w' x F0 F1 v' L0 P0 L1 P1 (ps++[pk]) (n+1)/\dY (Nt.NS x.gN v) w w'/\gT (CU x F0 F1 v) (CU x F0 F1 v') w w':=by
 refine (Nt.send_rest x.gN 2 (n:Nat) v ps pk w h.net hf ht hne (by omega) (by omega) (by omega) (by omega)).mono ?_;have c1:¬ (pk.d.length > 60000):=by omega
 have c2:¬ (500<=ps.length):=by omega
 rw [if_neg c1,if_neg c2,if_neg (by rintro (h|h);exact c1 h;exact c2 h),if_neg (by rintro (h|h);exact c1 h;exact c2 h)];rintro e w' ⟨v',rfl,hn',k,hv⟩;exact ⟨v',rfl,h.stepN (n':=n+1) (by simpa using hn') k hv,k,CU.stpN k hv⟩
theorem B8 {p:Nt.Pk} (h:Cl w0 U0 w x L0 P0 L1 P1 (p :: ps) n) (hp:ps.length < 500):
  Calls prog 130 #[.pointer (some ⟨x.gN,0,none⟩),.int .i64 0] w fun e w'=>e=.returned (.tuple #[Nt.pv p,.int .i64 0])/\Cl w0 U0 w' x L0 P0 L1 P1 ps n:=by
 obtain ⟨F0,F1,v,h,hs⟩:=h;refine (Nt.take_ok x.gN 2 (n:Nat) v (p :: ps) 0 w h.net (by simp) (by simp;omega)).mono ?_;rintro e w' ⟨v',rfl,hn',k,hv⟩;exact ⟨rfl,F0,F1,v',h.stepN (by simpa using hn') k (.inl hv),hs.trans (CU.stpN k (.inl hv))⟩
theorem sR (h:Cl w0 U0 w x L0 P0 L1 P1 [] n) (who:Int):
  Calls prog 135 #[.pointer (some ⟨x.gN,0,none⟩),.int .i64 who] w fun e w'=>e=.returned (.int .i64 0)/\Cl w0 U0 w' x L0 P0 L1 P1 [] n:=by
 obtain ⟨F0,F1,v,h,hs⟩:=h;refine (Nt.cut_any x.gN 2 (n:Nat) v [] who w h.net (by simp)).mono ?_;rintro e w' ⟨v',rfl,hn',k,hv⟩;exact ⟨rfl,F0,F1,v',h.stepN hn' k (.inl hv),hs.trans (CU.stpN k (.inl hv))⟩
theorem lE (h:Cl w0 U0 w x L0 P0 L1 P1 ps n):Calls prog 136 #[.pointer (some ⟨x.gN,0,none⟩)] w fun e w'=>e=.returned (.int .i64 ps.length)/\w=w':=by
 obtain ⟨F0,F1,v,h,-⟩:=h;exact Nt.len_is x.gN 2 (n:Nat) v ps w h.net
end
structure yA (W:World) (x:Cx) (q:Nat):Prop where
 c:Wq W x
 q_:Blk W q 72 #[.int .i64 6,.string ⟨#[]⟩,.string ⟨#[]⟩,.string ⟨#[]⟩,.slice none 0 0,.int .i64 1]
theorem yA.cells {W:World} {x:Cx} {q:Nat} (h:yA W x q):W.cell? ⟨x.C,1,none⟩=some (.pointer (some ⟨x.gN,0,none⟩))/\W.cell? ⟨q,5,none⟩=some (.int .i64 1)/\W.cell? ⟨x.a0,1,none⟩=some (.pointer (some ⟨x.D0,0,none⟩)):=⟨h.c.c1,h.q_.cell 5,h.c.o0⟩
theorem NZ {w0:World} {U0:BS} {w:World} {x:Cx} {L0 L1:List dV} {P0 P1:List (List UInt8)} {ps:List Nt.Pk} {n:Nat} (h:Cl w0 U0 w x L0 P0 L1 P1 ps n) (m:List UInt8) (hm:ew w 77 #[.pointer (some ⟨x.D0,0,none⟩)] (.string (bs m))) (hl:m.length<=60000) (hp:ps.length < 400) (hn:n<=900):
  Calls prog 27 #[.pointer (some ⟨x.C,0,none⟩),.int .i64 0,.agg #[.int .i64 6,.string ⟨#[]⟩,.string ⟨#[]⟩,.string ⟨#[]⟩,.slice none 0 0,.int .i64 1]] w fun e w'=>e=.returned (.int .i64 0)/\Cl w0 U0 w' x L0 P0 L1 P1 (ps++[⟨0,1,m⟩]) (n+1):=by
 have eN:=dD w (.cells #[.int .i64 6,.string ⟨#[]⟩,.string ⟨#[]⟩,.string ⟨#[]⟩,.slice none 0 0,.int .i64 1] 72);have hq1:=Blk.new w 72 #[.int .i64 6,.string ⟨#[]⟩,.string ⟨#[]⟩,.string ⟨#[]⟩,.slice none 0 0,.int .i64 1];obtain ⟨w1,hw1⟩:=dB (w.alloc (.cells #[.int .i64 6,.string ⟨#[]⟩,.string ⟨#[]⟩,.string ⟨#[]⟩,.slice none 0 0,.int .i64 1] 72));obtain ⟨q,hq⟩:=dB w.heap.size;rw [<-hw1] at eN hq1;rw [<-hq] at hq1;obtain ⟨F0,F1,v,hj,hs⟩:=h;have tZ:=dH (hs.then_ eN);have hnq:¬ Nt.NS x.gN v q:=fun hF=>by have:=oN hj.net q hF;omega
 have Rr:=dH hnq;have hj1:=hj.later eN;have h1:Cl w0 U0 w1 x L0 P0 L1 P1 ps n:=⟨F0,F1,v,hj1,tZ.o⟩;have H1:=dH hj1;have HM:=dH (hm.later eN);have HA:=dH (at0 h1);have HW:=dH hw1;have HQ:=dH hq;have xM:=dH hq1;have Nv:dG (yA w1 x q):=dH ⟨h1.cells,hq1⟩;have XL:dG (yA w1.drew x q):=dH ⟨(h1.later (aC _ w1).drew).cells,hq1⟩;have a0:=hq1.cell 0;simp at a0;clear hm eN hq1 hw1 hq h1 hj hj1 hnq hs;go_enter func27,ntmps27;go_upto_region 1 with (fail);rw [<-HQ.o,<-HW.o];go_wp2_with fail;refine HA.o.mono ?_;rintro e w2 ⟨rfl,rfl⟩;go_wp2_with fail;go_region_held3 (fun w'=>w'.cell? ⟨x.C,1,none⟩=some (.pointer (some ⟨x.gN,0,none⟩))/\w'.cell? ⟨q,5,none⟩=some (.int .i64 1)/\w'.cell? ⟨x.a0,1,none⟩=some (.pointer (some ⟨x.D0,0,none⟩)))
  (with_reducible first|exact yA.cells GC.o|exact yA.cells pH.o|exact yA.cells XL.o|exact yA.cells Nv.o)
  (first
   |(go_at_call 77;refine (HM.o _ (aC _ _).drew).mono ?_;rintro e w3 ⟨rfl,hb⟩;have hc:=(H1.o.later (aC _ _).drew).later hb;have H3:=dH hc;have mW:=dH ((xM.o.below (aC _ _).drew xM.o.lt).below hb xM.o.lt);have pH:dG (yA w3 x q):=dH ⟨mV.cells hc,mW.o⟩;have Fx:=dH ((tZ.o.then_ (aC _ _).drew).then_ hb);clear hb hc)
   |(go_at_call 76;refine (wT H3.o ⟨0,1,m⟩ (show (0:Int)<=0/\(0:Int) < 2 by decide) (show (0:Int)<=1/\(1:Int) < 2 by decide) (show (0:Int)≠1 by decide) hl (by omega) (by omega)).mono ?_;rintro e w4 ⟨v4,rfl,hc,hk,TQ⟩;have H4:=dH hc;have HS4:=dH (Fx.o.trans TQ);have GC:dG (yA w4 x q):=dH ⟨mV.cells hc,mW.o.kp hk Rr.o⟩;clear hc hk TQ))
 all_goals
  go_wp2_with fail;go_ret;exact ⟨rfl,_,_,_,H4.o,HS4.o⟩
structure yB (W:World) (x:Cx) (q:Nat):Prop where
 c:Wq W x
 q_:Blk W q 72 #[.int .i64 6,.string ⟨#[]⟩,.string ⟨#[]⟩,.string ⟨#[]⟩,.slice none 0 0,.int .i64 0]
theorem yB.cells {W:World} {x:Cx} {q:Nat} (h:yB W x q):W.cell? ⟨x.C,1,none⟩=some (.pointer (some ⟨x.gN,0,none⟩))/\W.cell? ⟨q,5,none⟩=some (.int .i64 0)/\W.cell? ⟨x.a1,1,none⟩=some (.pointer (some ⟨x.D1,0,none⟩)):=⟨h.c.c1,h.q_.cell 5,h.c.o1⟩
theorem Na {w0:World} {U0:BS} {w:World} {x:Cx} {L0 L1:List dV} {P0 P1:List (List UInt8)} {ps:List Nt.Pk} {n:Nat} (h:Cl w0 U0 w x L0 P0 L1 P1 ps n) (m:List UInt8) (hm:ew w 77 #[.pointer (some ⟨x.D1,0,none⟩)] (.string (bs m))) (hl:m.length<=60000) (hp:ps.length < 400) (hn:n<=900):
  Calls prog 27 #[.pointer (some ⟨x.C,0,none⟩),.int .i64 1,.agg #[.int .i64 6,.string ⟨#[]⟩,.string ⟨#[]⟩,.string ⟨#[]⟩,.slice none 0 0,.int .i64 0]] w fun e w'=>e=.returned (.int .i64 0)/\Cl w0 U0 w' x L0 P0 L1 P1 (ps++[⟨1,0,m⟩]) (n+1):=by
 have eN:=dD w (.cells #[.int .i64 6,.string ⟨#[]⟩,.string ⟨#[]⟩,.string ⟨#[]⟩,.slice none 0 0,.int .i64 0] 72);have hq1:=Blk.new w 72 #[.int .i64 6,.string ⟨#[]⟩,.string ⟨#[]⟩,.string ⟨#[]⟩,.slice none 0 0,.int .i64 0];obtain ⟨w1,hw1⟩:=dB (w.alloc (.cells #[.int .i64 6,.string ⟨#[]⟩,.string ⟨#[]⟩,.string ⟨#[]⟩,.slice none 0 0,.int .i64 0] 72));obtain ⟨q,hq⟩:=dB w.heap.size;rw [<-hw1] at eN hq1;rw [<-hq] at hq1;obtain ⟨F0,F1,v,hj,hs⟩:=h;have tZ:=dH (hs.then_ eN);have hnq:¬ Nt.NS x.gN v q:=fun hF=>by have:=oN hj.net q hF;omega
 have Rr:=dH hnq;have hj1:=hj.later eN;have h1:Cl w0 U0 w1 x L0 P0 L1 P1 ps n:=⟨F0,F1,v,hj1,tZ.o⟩;have H1:=dH hj1;have HM:=dH (hm.later eN);have HA:=dH (at1 h1);have HW:=dH hw1;have HQ:=dH hq;have xM:=dH hq1;have Nv:dG (yB w1 x q):=dH ⟨h1.cells,hq1⟩;have XL:dG (yB w1.drew x q):=dH ⟨(h1.later (aC _ w1).drew).cells,hq1⟩;have a0:=hq1.cell 0;simp at a0;clear hm eN hq1 hw1 hq h1 hj hj1 hnq hs;go_enter func27,ntmps27;go_upto_region 1 with (fail);rw [<-HQ.o,<-HW.o];go_wp2_with fail;refine HA.o.mono ?_;rintro e w2 ⟨rfl,rfl⟩;go_wp2_with fail;go_region_held3 (fun w'=>w'.cell? ⟨x.C,1,none⟩=some (.pointer (some ⟨x.gN,0,none⟩))/\w'.cell? ⟨q,5,none⟩=some (.int .i64 0)/\w'.cell? ⟨x.a1,1,none⟩=some (.pointer (some ⟨x.D1,0,none⟩)))
  (with_reducible first|exact yB.cells GC.o|exact yB.cells pH.o|exact yB.cells XL.o|exact yB.cells Nv.o)
  (first
   |(go_at_call 77;refine (HM.o _ (aC _ _).drew).mono ?_;rintro e w3 ⟨rfl,hb⟩;have hc:=(H1.o.later (aC _ _).drew).later hb;have H3:=dH hc;have mW:=dH ((xM.o.below (aC _ _).drew xM.o.lt).below hb xM.o.lt);have pH:dG (yB w3 x q):=dH ⟨mV.cells hc,mW.o⟩;have Fx:=dH ((tZ.o.then_ (aC _ _).drew).then_ hb);clear hb hc)
   |(go_at_call 76;refine (wT H3.o ⟨1,0,m⟩ (show (0:Int)<=1/\(1:Int) < 2 by decide) (show (0:Int)<=0/\(0:Int) < 2 by decide) (show (1:Int)≠0 by decide) hl (by omega) (by omega)).mono ?_;rintro e w4 ⟨v4,rfl,hc,hk,TQ⟩;have H4:=dH hc;have HS4:=dH (Fx.o.trans TQ);have GC:dG (yB w4 x q):=dH ⟨mV.cells hc,mW.o.kp hk Rr.o⟩;clear hc hk TQ))
 all_goals
  go_wp2_with fail;go_ret;exact ⟨rfl,_,_,_,H4.o,HS4.o⟩
structure Sa (W:World) (x:Cx) (q:Nat):Prop where
 c:Wq W x
 q_:Blk W q 72 #[.int .i64 2,.string (bs [97]),.string ⟨#[]⟩,.string (bs [120]),.slice none 0 0,.int .i64 0]
theorem Sa.cells {W:World} {x:Cx} {q:Nat} (h:Sa W x q):W.cell? ⟨q,1,none⟩=some (.string (bs [97]))/\W.cell? ⟨q,3,none⟩=some (.string (bs [120]))/\W.cell? ⟨x.a0,1,none⟩=some (.pointer (some ⟨x.D0,0,none⟩)):=⟨h.q_.cell 1,h.q_.cell 3,h.c.o0⟩
theorem Nb {w0:World} {U0:BS} {w:World} {x:Cx} {L1:List dV} {P1:List (List UInt8)} {ps:List Nt.Pk} {n:Nat} (h:Cl w0 U0 w x [] [] L1 P1 ps n):
  Calls prog 27 #[.pointer (some ⟨x.C,0,none⟩),.int .i64 0,.agg #[.int .i64 2,.string (bs [97]),.string ⟨#[]⟩,.string (bs [120]),.slice none 0 0,.int .i64 0]] w fun e w'=>e=.returned (.int .i64 0)/\Cl w0 U0 w' x [eZ] [[120]] L1 P1 ps n:=by
 have eN:=dD w (.cells #[.int .i64 2,.string (bs [97]),.string ⟨#[]⟩,.string (bs [120]),.slice none 0 0,.int .i64 0] 72);have hq1:=Blk.new w 72 #[.int .i64 2,.string (bs [97]),.string ⟨#[]⟩,.string (bs [120]),.slice none 0 0,.int .i64 0];obtain ⟨w1,hw1⟩:=dB (w.alloc (.cells #[.int .i64 2,.string (bs [97]),.string ⟨#[]⟩,.string (bs [120]),.slice none 0 0,.int .i64 0] 72));obtain ⟨q,hq⟩:=dB w.heap.size;rw [<-hw1] at eN hq1;rw [<-hq] at hq1;have h1:=h.later eN;have HA:=dH (at0 h1);have HW:=dH hw1;have HQ:=dH hq;have xM:=dH hq1;have h2:=h1.later (aC _ w1).drew;have Nv:dG (Sa w1 x q):=dH ⟨h1.cells,hq1⟩;have XL:dG (Sa w1.drew x q):=dH ⟨h2.cells,hq1⟩;have hqb:∀F0 F1 v,mV w x F0 F1 v [] [] L1 P1 ps n->¬ F0 q:=fun F0 F1 v hj hF=>by have:=hj.d0.bnd q hF;omega
 obtain ⟨F0,F1,v,hj,hs⟩:=h;have W9:=dH ((hs.then_ eN).then_ (aC _ w1).drew);have xQ:=(hj.later eN).later (aC _ w1).drew;have WA:=dH xQ;have Rr:=dH (hqb F0 F1 v hj);have HW0:=dH (Jr xQ.d0);have a0:=hq1.cell 0;simp at a0;clear hj xQ eN hq1 hw1 hq h1 h2 hqb hs;go_enter func27,ntmps27;go_upto_region 1 with (fail);rw [<-HQ.o,<-HW.o];go_wp2_with fail;refine HA.o.mono ?_;rintro e w2 ⟨rfl,rfl⟩;go_wp2_with fail;go_region_held3 (fun w'=>w'.cell? ⟨q,1,none⟩=some (.string (bs [97]))/\w'.cell? ⟨q,3,none⟩=some (.string (bs [120]))/\w'.cell? ⟨x.a0,1,none⟩=some (.pointer (some ⟨x.D0,0,none⟩)))
  (with_reducible first|exact Sa.cells pH.o|exact Sa.cells XL.o|exact Sa.cells Nv.o)
  (first
   |(go_at_call 71;refine HW0.o.mono ?_;rintro e w3 ⟨TI,rfl,hd,st⟩;have GI:=WA.o.stepD0 hd st;have H3:=dH GI;have Fx:=dH (W9.o.trans (CU.stp0 (x:=x) (F1:=F1) (v:=v) st));have pH:dG (Sa w3 x q):=dH ⟨mV.cells GI,XL.o.q_.kp st.keeps Rr.o⟩;clear hd st GI))
 all_goals
  go_wp2_with fail;go_ret;exact ⟨rfl,_,_,_,H3.o,Fx.o⟩
end
section
open Go.RowKit
attribute [local go_sem] dO dL dQ dM
structure rF (W:World) (x:Cx) (q:Nat) (f t:Int) (m:List UInt8):Prop where
 c:Wq W x
 q_:Blk W q 146 #[.int .i64 f,.int .i64 t,.string (bs m)]
theorem rF.cells0 {W:World} {x:Cx} {q:Nat} {f t:Int} {m:List UInt8} (h:rF W x q f t m):W.cell? ⟨x.C,0,none⟩=some (.slice (some ⟨x.gA,0,none⟩) 2 x.cA)/\W.cell? ⟨x.gA,0,none⟩=some (.pointer (some ⟨x.a0,0,none⟩))/\W.cell? ⟨x.a0,1,none⟩=some (.pointer (some ⟨x.D0,0,none⟩))/\W.cell? ⟨q,1,none⟩=some (.int .i64 t)/\W.cell? ⟨q,2,none⟩=some (.string (bs m)):=⟨h.c.c0,h.c.r0,h.c.o0,h.q_.cell 1,h.q_.cell 2⟩
theorem rF.cells1 {W:World} {x:Cx} {q:Nat} {f t:Int} {m:List UInt8} (h:rF W x q f t m):W.cell? ⟨x.C,0,none⟩=some (.slice (some ⟨x.gA,0,none⟩) 2 x.cA)/\W.cell? ⟨x.gA,1,none⟩=some (.pointer (some ⟨x.a1,0,none⟩))/\W.cell? ⟨x.a1,1,none⟩=some (.pointer (some ⟨x.D1,0,none⟩))/\W.cell? ⟨q,1,none⟩=some (.int .i64 t)/\W.cell? ⟨q,2,none⟩=some (.string (bs m)):=⟨h.c.c0,h.c.r1,h.c.o1,h.q_.cell 1,h.q_.cell 2⟩
theorem rF.cellsN {W:World} {x:Cx} {q:Nat} {f t:Int} {m:List UInt8} (h:rF W x q f t m):W.cell? ⟨x.C,1,none⟩=some (.pointer (some ⟨x.gN,0,none⟩))/\W.cell? ⟨q,0,none⟩=some (.int .i64 f)/\W.cell? ⟨q,1,none⟩=some (.int .i64 t):=⟨h.c.c1,h.q_.cell 0,h.q_.cell 1⟩
theorem UW {w0:World} {U0:BS} {w:World} {x:Cx} {L0 L1 L':List dV} {P0 P1 P':List (List UInt8)} {ps:List Nt.Pk} {n:Nat} (m:List UInt8) (h:Cl w0 U0 w x L0 P0 L1 P1 (⟨1,0,m⟩ :: ps) n) (hp:ps.length < 400)
  (hh:∀w' F,fA w' F x.D0 0 L0 P0->Calls prog 199 #[.pointer (some ⟨x.D0,0,none⟩),.string (bs m)] w' fun e w2=>∃F',e=.returned (.tuple #[.slice none 0 0,.int .i64 0])/\fA w2 F' x.D0 0 L' P'/\gT F F' w' w2):
  Calls prog 128 #[.pointer (some ⟨x.C,0,none⟩),.int .i64 0] w fun e w'=>e=.returned (.int .i64 0)/\Cl w0 U0 w' x L' P' L1 P1 ps n:=by
 have HT:=dH (B8 h (by omega));have HH:=dH hh;have c1:=h.cells.c1;clear h hh;go_enter func128,ntmps128;go_wp2_with fail;refine HT.o.mono ?_;rintro e w1 ⟨rfl,F0,F1,v,hj,hs⟩;have eN:=dD w1 (.cells #[.int .i64 1,.int .i64 0,.string (bs m)] 146);have iK:=Blk.new w1 146 #[.int .i64 1,.int .i64 0,.string (bs m)];obtain ⟨w2,eV⟩:=dB (w1.alloc (.cells #[.int .i64 1,.int .i64 0,.string (bs m)] 146));obtain ⟨q,hq⟩:=dB w1.heap.size;rw [<-eV] at eN iK;rw [<-hq] at iK;have HNF:dG (¬ F0 q):=dH (fun hF=>by have:=hj.d0.bnd q hF;omega);have Rr:dG (¬ Nt.NS x.gN v q):=dH (fun hF=>by have:=oN hj.net q hF;omega);have hj2:=hj.later eN;have xQ:=hj2.later (aC _ w2).drew;have WA:=dH xQ;have W9:=dH ((hs.then_ eN).then_ (aC _ w2).drew);have IA:dG (rF w2 x q 1 0 m):=dH ⟨mV.cells hj2,iK⟩;have TD:dG (rF w2.drew x q 1 0 m):=dH ⟨mV.cells xQ,iK⟩;have HHd:=dH (HH.o _ _ xQ.d0);have HW:=dH eV;have HQ:=dH hq;clear eN iK eV hq hj hj2 xQ c1 HT HH hs;unfold Nt.pv;go_upto_region 2 with (fail);rw [<-HQ.o,<-HW.o];go_wp2_with fail;go_region_held3 (fun w'=>w'.cell? ⟨x.C,0,none⟩=some (.slice (some ⟨x.gA,0,none⟩) 2 x.cA)/\w'.cell? ⟨x.gA,0,none⟩=some (.pointer (some ⟨x.a0,0,none⟩))/\w'.cell? ⟨x.a0,1,none⟩=some (.pointer (some ⟨x.D0,0,none⟩))/\w'.cell? ⟨q,1,none⟩=some (.int .i64 0)/\w'.cell? ⟨q,2,none⟩=some (.string (bs m)))
  (with_reducible first|exact rF.cells0 qU.o|exact rF.cells0 TD.o|exact rF.cells0 IA.o)
  (first|(go_at_call 199;refine HHd.o.mono ?_;rintro e w3 ⟨F',rfl,hd,st⟩;have GI:=WA.o.stepD0 hd st;have Fw:=dH GI;have Fx:=dH (W9.o.trans (CU.stp0 (x:=x) (F1:=F1) (v:=v) st));have qU:dG (rF w3 x q 1 0 m):=dH ⟨mV.cells GI,TD.o.q_.kp st.keeps HNF.o⟩;clear hd st GI))
 all_goals
  go_wp2_with fail;refine wp_loop_rounds 1 ?_;rw [rounds_succ];go_wp2_with fail;go_ret;exact ⟨rfl,_,_,_,Fw.o,Fx.o⟩
theorem Nc {w0:World} {U0:BS} {w:World} {x:Cx} {L0 L1 L':List dV} {P0 P1 P':List (List UInt8)} {ps:List Nt.Pk} {n:Nat} (m a:List UInt8) (h:Cl w0 U0 w x L0 P0 L1 P1 (⟨1,0,m⟩ :: ps) n) (hp:ps.length < 400) (ha:a.length<=60000) (hn:n<=900)
  (hh:∀w' F,fA w' F x.D0 0 L0 P0->Calls prog 199 #[.pointer (some ⟨x.D0,0,none⟩),.string (bs m)] w' fun e w2=>∃F' g c,e=.returned (.tuple #[.slice (some ⟨g,0,none⟩) 1 c,.int .i64 0])/\dN w2 w'.heap.size 1 (.slice (some ⟨g,0,none⟩) 1 c) 1 [.string (bs a)]/\fA w2 F' x.D0 0 L' P'/\gT F F' w' w2):
  Calls prog 128 #[.pointer (some ⟨x.C,0,none⟩),.int .i64 0] w fun e w'=>e=.returned (.int .i64 0)/\Cl w0 U0 w' x L' P' L1 P1 (ps++[⟨0,1,a⟩]) (n+1):=by
 have HT:=dH (B8 h (by omega));have HH:=dH hh;have c1:=h.cells.c1;clear h hh;go_enter func128,ntmps128;go_wp2_with fail;refine HT.o.mono ?_;rintro e w1 ⟨rfl,F0,F1,v,hj,hs⟩;have eN:=dD w1 (.cells #[.int .i64 1,.int .i64 0,.string (bs m)] 146);have iK:=Blk.new w1 146 #[.int .i64 1,.int .i64 0,.string (bs m)];obtain ⟨w2,eV⟩:=dB (w1.alloc (.cells #[.int .i64 1,.int .i64 0,.string (bs m)] 146));obtain ⟨q,hq⟩:=dB w1.heap.size;rw [<-eV] at eN iK;rw [<-hq] at iK;have HNF:dG (¬ F0 q):=dH (fun hF=>by have:=hj.d0.bnd q hF;omega);have Rr:dG (¬ Nt.NS x.gN v q):=dH (fun hF=>by have:=oN hj.net q hF;omega);have hj2:=hj.later eN;have xQ:=hj2.later (aC _ w2).drew;have WA:=dH xQ;have W9:=dH ((hs.then_ eN).then_ (aC _ w2).drew);have IA:dG (rF w2 x q 1 0 m):=dH ⟨mV.cells hj2,iK⟩;have TD:dG (rF w2.drew x q 1 0 m):=dH ⟨mV.cells xQ,iK⟩;have HHd:=dH (HH.o _ _ xQ.d0);have HW:=dH eV;have HQ:=dH hq;clear eN iK eV hq hj hj2 xQ c1 HT HH hs;unfold Nt.pv;go_upto_region 2 with (fail);rw [<-HQ.o,<-HW.o];go_wp2_with fail;go_region_held3 (fun w'=>w'.cell? ⟨x.C,0,none⟩=some (.slice (some ⟨x.gA,0,none⟩) 2 x.cA)/\w'.cell? ⟨x.gA,0,none⟩=some (.pointer (some ⟨x.a0,0,none⟩))/\w'.cell? ⟨x.a0,1,none⟩=some (.pointer (some ⟨x.D0,0,none⟩))/\w'.cell? ⟨q,1,none⟩=some (.int .i64 0)/\w'.cell? ⟨q,2,none⟩=some (.string (bs m)))
  (with_reducible first|exact rF.cells0 qU.o|exact rF.cells0 TD.o|exact rF.cells0 IA.o)
  (first|(go_at_call 199;refine HHd.o.mono ?_;rintro e w3 ⟨F',g,c,rfl,ho,hd,st⟩;have GI:=WA.o.stepD0 hd st;have Fw:=dH GI;have Fx:=dH (W9.o.trans (CU.stp0 (x:=x) (F1:=F1) (v:=v) st));have qU:dG (rF w3 x q 1 0 m):=dH ⟨mV.cells GI,TD.o.q_.kp st.keeps HNF.o⟩;have VG:=dH ho;clear ho;clear hd st GI))
 all_goals
  have k0:=(DB VG.o).1;have xQ:=Fw.o.later (aC _ w3).drew;have acg:=dH xQ;have ach:=dH (Fx.o.then_ (aC _ w3).drew);have aah:dG (rF w3.drew x q 1 0 m):=dH ⟨mV.cells xQ,qU.o.q_⟩;clear xQ;go_wp2_with fail;refine wp_loop_rounds 2 ?_;rw [rounds_succ];go_wp2_with fail;have VN:dG (¬ Nt.NS x.gN v q):=Rr;go_region_held3 (fun w'=>w'.cell? ⟨x.C,1,none⟩=some (.pointer (some ⟨x.gN,0,none⟩))/\w'.cell? ⟨q,0,none⟩=some (.int .i64 1)/\w'.cell? ⟨q,1,none⟩=some (.int .i64 0))
   (with_reducible first|exact rF.cellsN KQ.o|exact rF.cellsN aah.o|exact rF.cellsN qU.o)
   (first|(go_at_call 76;refine (wT acg.o ⟨0,1,a⟩ (show (0:Int)<=0/\(0:Int) < 2 by decide) (show (0:Int)<=1/\(1:Int) < 2 by decide) (show (0:Int)≠1 by decide) ha (by omega) (by omega)).mono ?_;rintro e w4 ⟨v4,rfl,hc,hk,TQ⟩;have HJ4:=dH hc;have HS4:=dH (ach.o.trans TQ);have KQ:dG (rF w4 x q 1 0 m):=dH ⟨mV.cells hc,aah.o.q_.kp hk VN.o⟩;clear hc hk TQ))
  all_goals
   go_wp2_with fail;rw [rounds_succ];go_wp2_with fail;go_ret;exact ⟨rfl,_,_,_,HJ4.o,HS4.o⟩
theorem wU {w0:World} {U0:BS} {w:World} {x:Cx} {L0 L1 L':List dV} {P0 P1 P':List (List UInt8)} {ps:List Nt.Pk} {n:Nat} (m:List UInt8) (h:Cl w0 U0 w x L0 P0 L1 P1 (⟨0,1,m⟩ :: ps) n) (hp:ps.length < 400)
  (hh:∀w' F,fA w' F x.D1 1 L1 P1->Calls prog 199 #[.pointer (some ⟨x.D1,0,none⟩),.string (bs m)] w' fun e w2=>∃F',e=.returned (.tuple #[.slice none 0 0,.int .i64 0])/\fA w2 F' x.D1 1 L' P'/\gT F F' w' w2):
  Calls prog 128 #[.pointer (some ⟨x.C,0,none⟩),.int .i64 0] w fun e w'=>e=.returned (.int .i64 0)/\Cl w0 U0 w' x L0 P0 L' P' ps n:=by
 have HT:=dH (B8 h (by omega));have HH:=dH hh;have c1:=h.cells.c1;clear h hh;go_enter func128,ntmps128;go_wp2_with fail;refine HT.o.mono ?_;rintro e w1 ⟨rfl,F0,F1,v,hj,hs⟩;have eN:=dD w1 (.cells #[.int .i64 0,.int .i64 1,.string (bs m)] 146);have iK:=Blk.new w1 146 #[.int .i64 0,.int .i64 1,.string (bs m)];obtain ⟨w2,eV⟩:=dB (w1.alloc (.cells #[.int .i64 0,.int .i64 1,.string (bs m)] 146));obtain ⟨q,hq⟩:=dB w1.heap.size;rw [<-eV] at eN iK;rw [<-hq] at iK;have HNF:dG (¬ F1 q):=dH (fun hF=>by have:=hj.d1.bnd q hF;omega);have Rr:dG (¬ Nt.NS x.gN v q):=dH (fun hF=>by have:=oN hj.net q hF;omega);have hj2:=hj.later eN;have xQ:=hj2.later (aC _ w2).drew;have WA:=dH xQ;have W9:=dH ((hs.then_ eN).then_ (aC _ w2).drew);have IA:dG (rF w2 x q 0 1 m):=dH ⟨mV.cells hj2,iK⟩;have TD:dG (rF w2.drew x q 0 1 m):=dH ⟨mV.cells xQ,iK⟩;have HHd:=dH (HH.o _ _ xQ.d1);have HW:=dH eV;have HQ:=dH hq;clear eN iK eV hq hj hj2 xQ c1 HT HH hs;unfold Nt.pv;go_upto_region 2 with (fail);rw [<-HQ.o,<-HW.o];go_wp2_with fail;go_region_held3 (fun w'=>w'.cell? ⟨x.C,0,none⟩=some (.slice (some ⟨x.gA,0,none⟩) 2 x.cA)/\w'.cell? ⟨x.gA,1,none⟩=some (.pointer (some ⟨x.a1,0,none⟩))/\w'.cell? ⟨x.a1,1,none⟩=some (.pointer (some ⟨x.D1,0,none⟩))/\w'.cell? ⟨q,1,none⟩=some (.int .i64 1)/\w'.cell? ⟨q,2,none⟩=some (.string (bs m)))
  (with_reducible first|exact rF.cells1 qU.o|exact rF.cells1 TD.o|exact rF.cells1 IA.o)
  (first|(go_at_call 199;refine HHd.o.mono ?_;rintro e w3 ⟨F',rfl,hd,st⟩;have GI:=WA.o.stepD1 hd st;have Fw:=dH GI;have Fx:=dH (W9.o.trans (CU.stp1 (x:=x) (F0:=F0) (v:=v) st));have qU:dG (rF w3 x q 0 1 m):=dH ⟨mV.cells GI,TD.o.q_.kp st.keeps HNF.o⟩;clear hd st GI))
 all_goals
  go_wp2_with fail;refine wp_loop_rounds 1 ?_;rw [rounds_succ];go_wp2_with fail;go_ret;exact ⟨rfl,_,_,_,Fw.o,Fx.o⟩
end
end Go.Proofs.YtgdaahffmcfhpaaGreatDoor
