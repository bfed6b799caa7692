/- Lemmas on the way: Da Db Dc Dd Qf Qg Qh. -/
import Derived.Test.YtgdaahffmcfhpaaGreatDoorO44
import Derived.Test.YtgdaahffmcfhpaaGreatDoorO45
import Derived.Test.YtgdaahffmcfhpaaGreatDoorO46
set_option maxRecDepth 100000
set_option maxHeartbeats 8000000
namespace Go.Proofs.YtgdaahffmcfhpaaGreatDoor
open aA
open Tryz
section
open Go.RowKit
attribute [local go_sem] dR dO dS dP
structure Cx where
 C:Nat
 gN:Nat
 gA:Nat
 cA:Nat
 a0:Nat
 a1:Nat
 D0:Nat
 D1:Nat
 u0:Value
 u1:Value
 u2:Value
 v0:Value
 v1:Value
 v2:Value
def StT (x:Cx) (i:Nat):Prop:=i=x.C\/i=x.gA\/i=x.a0\/i=x.a1
structure nH (w:World) (x:Cx) (F0 F1:BS) (v:Value) (L0:List dX) (P0:List (List UInt8)) (L1:List dX) (P1:List (List UInt8)) (ps:List Nt.Pk) (n:Nat):Prop where
 c_:Blk w x.C 128 #[Qs x.gA 2 x.cA,Qp x.gN]
 rl:x.gA < w.heap.size
 r0:w.cell? x.gA=Qp x.a0
 r1:w.cell? (Qc x.gA 1)=Qp x.a1
 cA:2<=x.cA/\x.cA<=9223372036854775807
 o0:Blk w x.a0 136 #[qn,Qp x.D0,x.u0,x.u1,x.u2]
 o1:Blk w x.a1 136 #[yh,Qp x.D1,x.v0,x.v1,x.v2]
 d0:fE w F0 x.D0 0 L0 P0
 d1:fE w F1 x.D1 1 L1 P1
 net:Nt.NetI w x.gN 2 (n:Nat) v ps
 a01:iS F0 F1
 a0N:iS F0 (Nt.NS x.gN v)
 a1N:iS F1 (Nt.NS x.gN v)
 t0:∀i,StT x i->¬ F0 i
 t1:∀i,StT x i->¬ F1 i
 tN:∀i,StT x i->¬ Nt.NS x.gN v i
section
variable {w w':World} {x:Cx} {F0 F1 Vl Yl:BS} {v v':Value} {L0 L1 Zh Ub:List dX} {P0 P1 Zi Uc:List (List UInt8)} {ps ps':List Nt.Pk} {n n':Nat}
theorem pJ (h:Nt.NetI w x.gN 2 (n:Nat) v ps):G6 (Nt.NS x.gN v) w:=λi hi=>by
 rcases hi with rfl|hi
 ·exact h.lt
 ·exact Nt.own_lt h.own hi
theorem nH.bT (h:nH w x F0 F1 v L0 P0 L1 P1 ps n):∀i,StT x i->i < w.heap.size:=λi hi=>by
 rcases hi with rfl|rfl|rfl|rfl
 ·exact h.c_.lt
 ·exact h.rl
 ·exact h.o0.lt
 ·exact h.o1.lt
theorem nH.st {S:BS} (h:nH w x F0 F1 v L0 P0 L1 P1 ps n) (k:dm S w w') (hn:∀i,StT x i->¬ S i):
  Blk w' x.C 128 #[Qs x.gA 2 x.cA,Qp x.gN]/\x.gA < w'.heap.size/\w'.cell? x.gA=Qp x.a0/\w'.cell? (Qc x.gA 1)=Qp x.a1/\
   Blk w' x.a0 136 #[qn,Qp x.D0,x.u0,x.u1,x.u2]/\Blk w' x.a1 136 #[yh,Qp x.D1,x.v0,x.v1,x.v2]:=
 ⟨h.c_.kp k (hn _ (.inl rfl)),aN h.rl k.size,(aM (a:=⟨x.gA,0,none⟩) (k.block _ h.rl (hn _ (.inr (.inl rfl))))).trans h.r0,(aM (a:=⟨x.gA,1,none⟩) (k.block _ h.rl (hn _ (.inr (.inl rfl))))).trans h.r1,
  h.o0.kp k (hn _ (.inr (.inr (.inl rfl)))),h.o1.kp k (hn _ (.inr (.inr (.inr rfl))))⟩
theorem nH.stepD0 (h:nH w x F0 F1 v L0 P0 L1 P1 ps n) (hd:fE w' Vl x.D0 0 Zh Zi) (st:iP F0 Vl w w'):nH w' x Vl F1 v Zh Zi L1 P1 ps n:=by
 obtain ⟨s1,s2,s3,s4,s5,s6⟩:=h.st st.keeps h.t0;exact ⟨s1,s2,s3,s4,h.cA,s5,s6,hd,h.d1.kp st.keeps (λi hi h'=>h.a01 i h' hi),h.net.kp st.keeps (λi hi=>h.a0N i hi),h.a01.gro st.gro h.d1.bnd,h.a0N.gro st.gro (pJ h.net),h.a1N,
  λi hi hF=>by
   rcases st.gro i hF with h1|h1
   ·exact h.t0 i hi h1
   ·have:=h.bT i hi;omega,h.t1,h.tN⟩
theorem nH.stepD1 (h:nH w x F0 F1 v L0 P0 L1 P1 ps n) (hd:fE w' Yl x.D1 1 Ub Uc) (st:iP F1 Yl w w'):nH w' x F0 Yl v L0 P0 Ub Uc ps n:=by
 obtain ⟨s1,s2,s3,s4,s5,s6⟩:=h.st st.keeps h.t1;exact ⟨s1,s2,s3,s4,h.cA,s5,s6,h.d0.kp st.keeps h.a01,hd,h.net.kp st.keeps (λi hi=>h.a1N i hi),(h.a01.symm.gro st.gro h.d0.bnd).symm,h.a0N,h.a1N.gro st.gro (pJ h.net),h.t0,
  λi hi hF=>by
   rcases st.gro i hF with h1|h1
   ·exact h.t1 i hi h1
   ·have:=h.bT i hi;omega,h.tN⟩
theorem nH.stepN (h:nH w x F0 F1 v L0 P0 L1 P1 ps n) (hn:Nt.NetI w' x.gN 2 (n':Nat) v' ps') (k:dm (Nt.NS x.gN v) w w') (hv:v'.ownBlock=v.ownBlock\/∃g,v'.ownBlock=some g/\w.heap.size<=g):nH w' x F0 F1 v' L0 P0 L1 P1 ps' n':=by
 obtain ⟨s1,s2,s3,s4,s5,s6⟩:=h.st k h.tN;have gro:Na (Nt.NS x.gN v) (Nt.NS x.gN v') w:=λi hi=>by
  rcases hi with hi|hi
  ·exact .inl (.inl hi)
  ·rcases hv with hv| ⟨g,hg,hge⟩
   ·exact .inl (.inr (by rw [<-hv];exact hi))
   ·rw [hg] at hi;cases hi;exact .inr hge
 exact ⟨s1,s2,s3,s4,h.cA,s5,s6,h.d0.kp k h.a0N,h.d1.kp k h.a1N,hn,h.a01,(h.a0N.symm.gro gro h.d0.bnd).symm,(h.a1N.symm.gro gro h.d1.bnd).symm,h.t0,h.t1,
  λi hi hF=>by
   rcases gro i hF with h1|h1
   ·exact h.tN i hi h1
   ·have:=h.bT i hi;omega⟩
def CU (x:Cx) (F0 F1:BS) (v:Value) (i:Nat):Prop:=F0 i\/F1 i\/Nt.NS x.gN v i
theorem CU.stp0 (st:iP F0 Vl w w'):iP (CU x F0 F1 v) (CU x Vl F1 v) w w':=⟨nP st.keeps (λ_ _ h=>.inl h),λi hi=>by
 rcases hi with h|h|h
 ·rcases st.gro i h with h1|h1
  ·exact .inl (.inl h1)
  ·exact .inr h1
 ·exact .inl (.inr (.inl h))
 ·exact .inl (.inr (.inr h))⟩
theorem CU.stp1 (st:iP F1 Yl w w'):iP (CU x F0 F1 v) (CU x F0 Yl v) w w':=⟨nP st.keeps (λ_ _ h=>.inr (.inl h)),λi hi=>by
 rcases hi with h|h|h
 ·exact .inl (.inl h)
 ·rcases st.gro i h with h1|h1
  ·exact .inl (.inr (.inl h1))
  ·exact .inr h1
 ·exact .inl (.inr (.inr h))⟩
theorem CU.stpN (k:dm (Nt.NS x.gN v) w w') (hv:v'.ownBlock=v.ownBlock\/∃g,v'.ownBlock=some g/\w.heap.size<=g):iP (CU x F0 F1 v) (CU x F0 F1 v') w w':=⟨nP k (λ_ _ h=>.inr (.inr h)),λi hi=>by
 rcases hi with h|h|h|h
 ·exact .inl (.inl h)
 ·exact .inl (.inr (.inl h))
 ·exact .inl (.inr (.inr (.inl h)))
 ·rcases hv with hv| ⟨g,hg,hge⟩
  ·exact .inl (.inr (.inr (.inr (by rw [<-hv];exact h))))
  ·rw [hg] at h;cases h;exact .inr hge⟩
theorem CU.bnd (h:nH w x F0 F1 v L0 P0 L1 P1 ps n):G6 (CU x F0 F1 v) w:=λi hi=>by
 rcases hi with h1|h1|h1
 ·exact h.d0.bnd i h1
 ·exact h.d1.bnd i h1
 ·exact pJ h.net i h1
theorem nH.later (h:nH w x F0 F1 v L0 P0 L1 P1 ps n) (hb:Below w w w'):nH w' x F0 F1 v L0 P0 L1 P1 ps n:=h.stepD0 (h.d0.later hb) (iP.below _ hb)
end
def Cl (w0:World) (U0:BS) (w:World) (x:Cx) (L0:List dX) (P0:List (List UInt8)) (L1:List dX) (P1:List (List UInt8)) (ps:List Nt.Pk) (n:Nat):Prop:=∃F0 F1 v,nH w x F0 F1 v L0 P0 L1 P1 ps n/\iP U0 (CU x F0 F1 v) w0 w
theorem Cl.later {w0:World} {U0:BS} {w w':World} {x:Cx} {L0 L1:List dX} {P0 P1:List (List UInt8)} {ps:List Nt.Pk} {n:Nat} (h:Cl w0 U0 w x L0 P0 L1 P1 ps n) (hb:Below w w w'):Cl w0 U0 w' x L0 P0 L1 P1 ps n:=by
 obtain ⟨F0,F1,v,h,hs⟩:=h;exact ⟨F0,F1,v,h.later hb,hs.then_ hb⟩
structure Z4 (w:World) (x:Cx):Prop where
 c0:w.cell? x.C=Qs x.gA 2 x.cA
 c1:w.cell? (Qc x.C 1)=Qp x.gN
 r0:w.cell? x.gA=Qp x.a0
 r1:w.cell? (Qc x.gA 1)=Qp x.a1
 o0:w.cell? (Qc x.a0 1)=Qp x.D0
 o1:w.cell? (Qc x.a1 1)=Qp x.D1
variable {w w0:World} {x:Cx} {ps:List Nt.Pk} {n:Nat}
theorem nH.cells {F0 F1:BS} {v:Value} {L0 L1:List dX} {P0 P1:List (List UInt8)} (h:nH w x F0 F1 v L0 P0 L1 P1 ps n):Z4 w x:=⟨h.c_.cell 0,h.c_.cell 1,h.r0,h.r1,h.o0.cell 1,h.o1.cell 1⟩
theorem Cl.cells {w0:World} {U0:BS} {w:World} {x:Cx} {L0 L1:List dX} {P0 P1:List (List UInt8)} {ps:List Nt.Pk} {n:Nat} (h:Cl w0 U0 w x L0 P0 L1 P1 ps n):Z4 w x:=by
 obtain ⟨F0,F1,v,h,-⟩:=h;exact h.cells
variable {U0:BS}
theorem Cl.base {L0 L1:List dX} {P0 P1:List (List UInt8)} (h:Cl w0 U0 w x L0 P0 L1 P1 ps n):∃U,G6 U w/\Cl w U w x L0 P0 L1 P1 ps n:=by
 obtain ⟨F0,F1,v,h,-⟩:=h;exact ⟨_,CU.bnd h,F0,F1,v,h,iP.below _ (aC _ _)⟩
theorem Cl.stp {L0 L1:List dX} {P0 P1:List (List UInt8)} (h:Cl w0 U0 w x L0 P0 L1 P1 ps n):dm U0 w0 w:=by
 obtain ⟨F0,F1,v,h,hs⟩:=h;exact hs.keeps
theorem at0 {L0 L1:List dX} {P0 P1:List (List UInt8)} (h:Cl w0 U0 w x L0 P0 L1 P1 ps n):
  Calls prog 69 #[Qp x.C,qn] w λe w'=>e=.returned (.tuple #[Qp x.a0,qn])/\w=w':=by
 obtain ⟨c0,c1,r0,r1,o0,o1⟩:=h.cells;clear h;go_enter func69,ntmps69;go_wp2_with fail;go_ret2;exact ⟨rfl,rfl⟩
theorem at1 {L0 L1:List dX} {P0 P1:List (List UInt8)} (h:Cl w0 U0 w x L0 P0 L1 P1 ps n):
  Calls prog 69 #[Qp x.C,yh] w λe w'=>e=.returned (.tuple #[Qp x.a1,qn])/\w=w':=by
 obtain ⟨c0,c1,r0,r1,o0,o1⟩:=h.cells;clear h;go_enter func69,ntmps69;go_wp2_with fail;go_ret2;exact ⟨rfl,rfl⟩
theorem TS {L0 L1:List dX} {P0 P1:List (List UInt8)} (h:Cl w0 U0 w x L0 P0 L1 P1 ps n):
  Calls prog 29 #[Qp x.C,yh] w λe w'=>e=.returned (Qp x.D1)/\w=w':=by
 have HA:=dL (at1 h);obtain ⟨c0,c1,r0,r1,o0,o1⟩:=h.cells;clear h;go_enter func29,ntmps29;go_wp2_with fail;refine HA.o.mono ?_;rintro e w1 ⟨rfl,rfl⟩;go_wp2_with fail;go_ret;exact ⟨rfl,rfl⟩
end
section
open Go.RowKit
attribute [local go_sem] dR dO dS dP
variable {w w0:World}
theorem jq {U0:BS} {x:Cx} {L0 L1:List dX} {P0 P1:List (List UInt8)} {ps:List Nt.Pk} {n:Nat} (h:Cl w0 U0 w x L0 P0 L1 P1 ps n) (m0 m1:List UInt8) (h0:en w 77 #[Qp x.D0] (.string (bs m0))) (h1:en w 77 #[Qp x.D1] (.string (bs m1))):
  Calls prog 80 #[Qp x.C] w λe w'=>∃g c,e=.returned (.slice (some ⟨g,0,none⟩) 2 c)/\dQ w' w 1 (.slice (some ⟨g,0,none⟩) 2 c) 2 [.string (bs m0),.string (bs m1)]/\Below w w w':=by
 obtain ⟨c0,c1,r0,r1,o0,o1⟩:=h.cells;have H:=dL h;have H0:=dL h0;have H1:=dL h1;obtain ⟨j0,hj,hy0,hy1,hy2⟩:=info_parts Ik.info9s;have HJ:=dL hj;have z7:=dL hy0;have Cv:=dL hy1;have Cw:=dL hy2;clear hj hy0 hy1 hy2 h h0 h1;go_enter func80,ntmps80;go_wp2_with fail;refine wp_loop_rounds 3 ?_;rw [rounds_succ];go_wp2_with fail;refine (H0.o _ (aC _ _)).mono ?_;rintro e w1 ⟨rfl,dV⟩;have eR:=dL dV;clear dV c0 c1 r0 r1 o0 o1;go_wp2_with (at_builtin;refine de _ rfl (.tmp 15) (.tmp 21) 99 99 rfl 9 j0 (.string ⟨#[]⟩) 1 underlying99 HJ.o z7.o Cv.o rfl (by decide) rfl _ rfl 1 (by decide) [.string (bs m0)] (Src.one underlying99 (by simp [go_sem]) rfl) (by decide) (by rw [Cw.o];decide) ?_)
 intro cap w2 hown dY;have M6:Below w1 w1 w2:=((aC _ _).alloc (aB _) _).trans (dY.mono (by simp));obtain ⟨G,hG⟩:=dG (w1.heap.size+1);rw [<-hG] at hown;have zW:=dL (dQ.mono (B':=w.heap.size) hown (by have:=eR.o.size;omega));have eA:=dJ eR M6;have HG:=dL hG;clear hown dY M6 hG eR;rw [<-HG.o];obtain ⟨c0,c1,r0,r1,o0,o1⟩:=(H.o.later eA.o).cells;go_wp2_with fail;rw [rounds_succ];go_wp2_with fail;refine (H1.o _ eA.o).mono ?_;rintro e w3 ⟨rfl,dn⟩;have qL:=dL (dQ.below zW.o dn);have eC:=dJ eA dn;have hGw:w.heap.size<=G:=(dQ.ge zW.o G rfl).1;clear dn c0 c1 r0 r1 o0 o1 zW eA;go_wp2_with (at_builtin;refine dW _ rfl (.tmp 15) (.tmp 21) 99 99 rfl 9 j0 (.string ⟨#[]⟩) 1 underlying99 HJ.o z7.o Cv.o rfl (by decide) w _ 1 [.string (bs m0)] rfl (dQ.alloc qL.o _) _ rfl 1 [.string (bs m1)] (Src.one underlying99 (by simp [go_sem]) rfl) (by decide) (by rw [Cw.o];decide) (by have:=eC.o.size;simp;omega) ?_)
 intro v4 w4 hown qK fR;obtain ⟨G4,YR,rfl,-,-,-,-,-,-⟩:=hown.form (by decide);have Tn:dm (λi=>i=G) w3 w4:=eF (rj (eT _ _) _) (ek (S:=λi=>i=G) qK (λi hi=>by cases hi;rfl)) (λ_ _ h=>h);have fI:=dL (eL eC.o Tn (λi hi=>by rw [hi];exact hGw) eC.o.size);have rI:=dL hown;obtain ⟨c0,c1,r0,r1,o0,o1⟩:=(H.o.later fI.o).cells;clear hown qK fR Tn qL eC;go_wp2_with fail;rw [rounds_succ];go_wp2_with fail;go_ret;exact ⟨G4,YR,rfl,rI.o,fI.o⟩
theorem Hg {g c g' c':Nat} {a b a' b':List UInt8} (h:w.cell? g=a/\w.cell? (Qc g 1)=b) (h':w.cell? g'=a'/\w.cell? (Qc g' 1)=b') (r:Bool) (hr:r=decide (a=a'/\b=b')):
  Calls prog 82 #[Qs g 2 c,Qs g' 2 c'] w (dM w (.bool r)):=by
 refine (slices_Equal_string g 0 2 c g' 0 2 c' [bs a,bs b] [bs a',bs b'] w (by simp) (by simp) (by decide) (by decide) ?_ ?_).mono ?_
 ·intro j hj
  have:j=0\/j=1:=by simp at hj;omega
  rcases this with rfl|rfl
  ·exact h.1
  ·exact h.2
 ·intro j hj
  have:j=0\/j=1:=by simp at hj;omega
  rcases this with rfl|rfl
  ·exact h'.1
  ·exact h'.2
 ·rintro e w' ⟨rfl,q,rfl⟩
  refine ⟨?_,below_drewN (aC _ w) q⟩;rw [hr];have inj:∀p q:List UInt8,bs p=bs q↔p=q:=λp q=> ⟨λh=>by have:=congrArg (λz=>z.data.toList) h;simpa [bs] using this,λh=>by rw [h]⟩
  have e:decide (([bs a,bs b]:List ByteArray).take 2=[bs a',bs b'].take 2)=decide (a=a'/\b=b'):=by
   apply decide_eq_decide.2;simp [inj]
  rw [e]
end
section
open Go.RowKit
attribute [local go_sem] dR dO dS dP
section
variable {w0:World} {U0:BS} {w:World} {x:Cx} {L0 L1:List dX} {P0 P1:List (List UInt8)} {ps:List Nt.Pk} {n:Nat}
theorem yG {F0 F1:BS} {v:Value} (h:nH w x F0 F1 v L0 P0 L1 P1 ps n) (pk:Nt.Pk) (hf:0<=pk.f/\pk.f < 2) (ht:0<=pk.t/\pk.t < 2) (hne:pk.f≠pk.t) (hd:pk.d.length<=60000) (hp:ps.length < 500) (hn:n<=1000):
  Calls prog 76 #[Qp x.gN,Nt.pv pk] w λe w'=>∃v',e=.returned qn/\nH w' x F0 F1 v' L0 P0 L1 P1 (ps++[pk]) (n+1)/\dm (Nt.NS x.gN v) w w'/\iP (CU x F0 F1 v) (CU x F0 F1 v') w w':=by
 refine (Nt.send_rest x.gN 2 (n:Nat) v ps pk w h.net hf ht hne (by omega) (by omega) (by omega) (by omega)).mono ?_;have c1:¬ (pk.d.length > 60000):=by omega
 have c2:¬ (500<=ps.length):=by omega
 rw [if_neg c1,if_neg c2,if_neg (by rintro (h|h);exact c1 h;exact c2 h),if_neg (by rintro (h|h);exact c1 h;exact c2 h)];rintro e w' ⟨v',rfl,hn',k,hv⟩;exact ⟨v',rfl,h.stepN (n':=n+1) (by simpa using hn') k hv,k,CU.stpN k hv⟩
theorem CI {p:Nt.Pk} (h:Cl w0 U0 w x L0 P0 L1 P1 (p :: ps) n) (hp:ps.length < 500):
  Calls prog 130 #[Qp x.gN,qn] w λe w'=>e=.returned (.tuple #[Nt.pv p,qn])/\Cl w0 U0 w' x L0 P0 L1 P1 ps n:=by
 obtain ⟨F0,F1,v,h,hs⟩:=h;refine (Nt.take_ok x.gN 2 (n:Nat) v (p :: ps) 0 w h.net (by simp) (by simp;omega)).mono ?_;rintro e w' ⟨v',rfl,hn',k,hv⟩;exact ⟨rfl,F0,F1,v',h.stepN (by simpa using hn') k (.inl hv),hs.trans (CU.stpN k (.inl hv))⟩
theorem tg (h:Cl w0 U0 w x L0 P0 L1 P1 [] n) (who:Int):
  Calls prog 135 #[Qp x.gN,who] w λe w'=>e=.returned qn/\Cl w0 U0 w' x L0 P0 L1 P1 [] n:=by
 obtain ⟨F0,F1,v,h,hs⟩:=h;refine (Nt.cut_any x.gN 2 (n:Nat) v [] who w h.net (by simp)).mono ?_;rintro e w' ⟨v',rfl,hn',k,hv⟩;exact ⟨rfl,F0,F1,v',h.stepN hn' k (.inl hv),hs.trans (CU.stpN k (.inl hv))⟩
theorem lW (h:Cl w0 U0 w x L0 P0 L1 P1 ps n):Calls prog 136 #[Qp x.gN] w λe w'=>e=.returned ps.length/\w=w':=by
 obtain ⟨F0,F1,v,h,-⟩:=h;exact Nt.len_is x.gN 2 (n:Nat) v ps w h.net
end
structure zR (W:World) (x:Cx) (q:Nat):Prop where
 c:Z4 W x
 q_:Blk W q 72 #[(6:Int),yj,yj,yj,(),yh]
variable {W w0 w:World} {x:Cx} {q n:Nat}
theorem zR.cells (h:zR W x q):W.cell? (Qc x.C 1)=Qp x.gN/\W.cell? (Qc q 5)=yh/\W.cell? (Qc x.a0 1)=Qp x.D0:=⟨h.c.c1,h.q_.cell 5,h.c.o0⟩
variable {U0:BS} {ps:List Nt.Pk}
theorem Pj {L0 L1:List dX} {P0 P1:List (List UInt8)} (h:Cl w0 U0 w x L0 P0 L1 P1 ps n) (m:List UInt8) (hm:en w 77 #[Qp x.D0] (.string (bs m))) (hl:m.length<=60000) (hp:ps.length < 400) (hn:n<=900):
  Calls prog 27 #[Qp x.C,qn,.agg #[(6:Int),yj,yj,yj,(),yh]] w λe w'=>e=.returned qn/\Cl w0 U0 w' x L0 P0 L1 P1 (ps++[⟨0,1,m⟩]) (n+1):=by
 have hal:=dH w (.cells #[(6:Int),yj,yj,yj,(),yh] 72);have hq1:=Blk.new w 72 #[(6:Int),yj,yj,yj,(),yh];obtain ⟨w1,hw1⟩:=dG (w.alloc (.cells #[(6:Int),yj,yj,yj,(),yh] 72));obtain ⟨q,hq⟩:=dG w.heap.size;rw [<-hw1] at hal hq1;rw [<-hq] at hq1;obtain ⟨F0,F1,v,hj,hs⟩:=h;have rJ:=dL (hs.then_ hal);have hnq:¬ Nt.NS x.gN v q:=λhF=>by have:=pJ hj.net q hF;omega
 have UQ:=dL hnq;have hj1:=hj.later hal;have h1:Cl w0 U0 w1 x L0 P0 L1 P1 ps n:=⟨F0,F1,v,hj1,rJ.o⟩;have H1:=dL hj1;have HM:=dL (hm.later hal);have HA:=dL (at0 h1);have HW:=dL hw1;have HQ:=dL hq;have wA:=dL hq1;have Q6:dK (zR w1 x q):=dL ⟨h1.cells,hq1⟩;have Zc:dK (zR w1.drew x q):=dL ⟨(h1.later (aC _ w1).drew).cells,hq1⟩;have a0:=hq1.cell 0;simp at a0;clear hm hal hq1 hw1 hq h1 hj hj1 hnq hs;go_enter func27,ntmps27;go_upto_region 1 with (fail);rw [<-HQ.o,<-HW.o];go_wp2_with fail;refine HA.o.mono ?_;rintro e w2 ⟨rfl,rfl⟩;go_wp2_with fail;go_region_held3 (λw'=>w'.cell? (Qc x.C 1)=Qp x.gN/\w'.cell? (Qc q 5)=yh/\w'.cell? (Qc x.a0 1)=Qp x.D0)
  (with_reducible first|exact zR.cells IG.o|exact zR.cells ye.o|exact zR.cells Zc.o|exact zR.cells Q6.o)
  (first
   |(go_at_call 77;refine (HM.o _ (aC _ _).drew).mono ?_;rintro e w3 ⟨rfl,hb⟩;have hc:=(H1.o.later (aC _ _).drew).later hb;have H3:=dL hc;have nC:=dL ((wA.o.below (aC _ _).drew wA.o.lt).below hb wA.o.lt);have ye:dK (zR w3 x q):=dL ⟨nH.cells hc,nC.o⟩;have B8:=dL ((rJ.o.then_ (aC _ _).drew).then_ hb);clear hb hc)
   |(go_at_call 76;refine (yG H3.o ⟨0,1,m⟩ (show (0:Int)<=0/\(0:Int) < 2 by decide) (show (0:Int)<=1/\(1:Int) < 2 by decide) (show (0:Int)≠1 by decide) hl (by omega) (by omega)).mono ?_;rintro e w4 ⟨v4,rfl,hc,hk,Vt⟩;have H4:=dL hc;have Qm:=dL (B8.o.trans Vt);have IG:dK (zR w4 x q):=dL ⟨nH.cells hc,nC.o.kp hk UQ.o⟩;clear hc hk Vt))
 all_goals
  go_wp2_with fail;go_ret;exact ⟨rfl,_,_,_,H4.o,Qm.o⟩
structure zS (W:World) (x:Cx) (q:Nat):Prop where
 c:Z4 W x
 q_:Blk W q 72 #[(6:Int),yj,yj,yj,(),qn]
theorem zS.cells (h:zS W x q):W.cell? (Qc x.C 1)=Qp x.gN/\W.cell? (Qc q 5)=qn/\W.cell? (Qc x.a1 1)=Qp x.D1:=⟨h.c.c1,h.q_.cell 5,h.c.o1⟩
theorem Pm {L0 L1:List dX} {P0 P1:List (List UInt8)} (h:Cl w0 U0 w x L0 P0 L1 P1 ps n) (m:List UInt8) (hm:en w 77 #[Qp x.D1] (.string (bs m))) (hl:m.length<=60000) (hp:ps.length < 400) (hn:n<=900):
  Calls prog 27 #[Qp x.C,yh,.agg #[(6:Int),yj,yj,yj,(),qn]] w λe w'=>e=.returned qn/\Cl w0 U0 w' x L0 P0 L1 P1 (ps++[⟨1,0,m⟩]) (n+1):=by
 have hal:=dH w (.cells #[(6:Int),yj,yj,yj,(),qn] 72);have hq1:=Blk.new w 72 #[(6:Int),yj,yj,yj,(),qn];obtain ⟨w1,hw1⟩:=dG (w.alloc (.cells #[(6:Int),yj,yj,yj,(),qn] 72));obtain ⟨q,hq⟩:=dG w.heap.size;rw [<-hw1] at hal hq1;rw [<-hq] at hq1;obtain ⟨F0,F1,v,hj,hs⟩:=h;have rJ:=dL (hs.then_ hal);have hnq:¬ Nt.NS x.gN v q:=λhF=>by have:=pJ hj.net q hF;omega
 have UQ:=dL hnq;have hj1:=hj.later hal;have h1:Cl w0 U0 w1 x L0 P0 L1 P1 ps n:=⟨F0,F1,v,hj1,rJ.o⟩;have H1:=dL hj1;have HM:=dL (hm.later hal);have HA:=dL (at1 h1);have HW:=dL hw1;have HQ:=dL hq;have wA:=dL hq1;have Q6:dK (zS w1 x q):=dL ⟨h1.cells,hq1⟩;have Zc:dK (zS w1.drew x q):=dL ⟨(h1.later (aC _ w1).drew).cells,hq1⟩;have a0:=hq1.cell 0;simp at a0;clear hm hal hq1 hw1 hq h1 hj hj1 hnq hs;go_enter func27,ntmps27;go_upto_region 1 with (fail);rw [<-HQ.o,<-HW.o];go_wp2_with fail;refine HA.o.mono ?_;rintro e w2 ⟨rfl,rfl⟩;go_wp2_with fail;go_region_held3 (λw'=>w'.cell? (Qc x.C 1)=Qp x.gN/\w'.cell? (Qc q 5)=qn/\w'.cell? (Qc x.a1 1)=Qp x.D1)
  (with_reducible first|exact zS.cells IG.o|exact zS.cells ye.o|exact zS.cells Zc.o|exact zS.cells Q6.o)
  (first
   |(go_at_call 77;refine (HM.o _ (aC _ _).drew).mono ?_;rintro e w3 ⟨rfl,hb⟩;have hc:=(H1.o.later (aC _ _).drew).later hb;have H3:=dL hc;have nC:=dL ((wA.o.below (aC _ _).drew wA.o.lt).below hb wA.o.lt);have ye:dK (zS w3 x q):=dL ⟨nH.cells hc,nC.o⟩;have B8:=dL ((rJ.o.then_ (aC _ _).drew).then_ hb);clear hb hc)
   |(go_at_call 76;refine (yG H3.o ⟨1,0,m⟩ (show (0:Int)<=1/\(1:Int) < 2 by decide) (show (0:Int)<=0/\(0:Int) < 2 by decide) (show (1:Int)≠0 by decide) hl (by omega) (by omega)).mono ?_;rintro e w4 ⟨v4,rfl,hc,hk,Vt⟩;have H4:=dL hc;have Qm:=dL (B8.o.trans Vt);have IG:dK (zS w4 x q):=dL ⟨nH.cells hc,nC.o.kp hk UQ.o⟩;clear hc hk Vt))
 all_goals
  go_wp2_with fail;go_ret;exact ⟨rfl,_,_,_,H4.o,Qm.o⟩
structure V4 (W:World) (x:Cx) (q:Nat):Prop where
 c:Z4 W x
 q_:Blk W q 72 #[(2:Int),.string (bs [97]),yj,.string (bs [120]),(),qn]
theorem V4.cells (h:V4 W x q):W.cell? (Qc q 1)=some (.string (bs [97]))/\W.cell? (Qc q 3)=some (.string (bs [120]))/\W.cell? (Qc x.a0 1)=Qp x.D0:=⟨h.q_.cell 1,h.q_.cell 3,h.c.o0⟩
theorem Pn {L1:List dX} {P1:List (List UInt8)} (h:Cl w0 U0 w x [] [] L1 P1 ps n):
  Calls prog 27 #[Qp x.C,qn,.agg #[(2:Int),.string (bs [97]),yj,.string (bs [120]),(),qn]] w λe w'=>e=.returned qn/\Cl w0 U0 w' x [ez] [[120]] L1 P1 ps n:=by
 have hal:=dH w (.cells #[(2:Int),.string (bs [97]),yj,.string (bs [120]),(),qn] 72);have hq1:=Blk.new w 72 #[(2:Int),.string (bs [97]),yj,.string (bs [120]),(),qn];obtain ⟨w1,hw1⟩:=dG (w.alloc (.cells #[(2:Int),.string (bs [97]),yj,.string (bs [120]),(),qn] 72));obtain ⟨q,hq⟩:=dG w.heap.size;rw [<-hw1] at hal hq1;rw [<-hq] at hq1;have h1:=h.later hal;have HA:=dL (at0 h1);have HW:=dL hw1;have HQ:=dL hq;have wA:=dL hq1;have h2:=h1.later (aC _ w1).drew;have Q6:dK (V4 w1 x q):=dL ⟨h1.cells,hq1⟩;have Zc:dK (V4 w1.drew x q):=dL ⟨h2.cells,hq1⟩;have hqb:∀F0 F1 v,nH w x F0 F1 v [] [] L1 P1 ps n->¬ F0 q:=λF0 F1 v hj hF=>by have:=hj.d0.bnd q hF;omega
 obtain ⟨F0,F1,v,hj,hs⟩:=h;have Y6:=dL ((hs.then_ hal).then_ (aC _ w1).drew);have z8:=(hj.later hal).later (aC _ w1).drew;have Y7:=dL z8;have UQ:=dL (hqb F0 F1 v hj);have HW0:=dL (LX z8.d0);have a0:=hq1.cell 0;simp at a0;clear hj z8 hal hq1 hw1 hq h1 h2 hqb hs;go_enter func27,ntmps27;go_upto_region 1 with (fail);rw [<-HQ.o,<-HW.o];go_wp2_with fail;refine HA.o.mono ?_;rintro e w2 ⟨rfl,rfl⟩;go_wp2_with fail;go_region_held3 (λw'=>w'.cell? (Qc q 1)=some (.string (bs [97]))/\w'.cell? (Qc q 3)=some (.string (bs [120]))/\w'.cell? (Qc x.a0 1)=Qp x.D0)
  (with_reducible first|exact V4.cells ye.o|exact V4.cells Zc.o|exact V4.cells Q6.o)
  (first
   |(go_at_call 71;refine HW0.o.mono ?_;rintro e w3 ⟨Vl,rfl,hd,st⟩;have IN:=Y7.o.stepD0 hd st;have H3:=dL IN;have B8:=dL (Y6.o.trans (CU.stp0 (x:=x) (F1:=F1) (v:=v) st));have ye:dK (V4 w3 x q):=dL ⟨nH.cells IN,Zc.o.q_.kp st.keeps UQ.o⟩;clear hd st IN))
 all_goals
  go_wp2_with fail;go_ret;exact ⟨rfl,_,_,_,H3.o,B8.o⟩
end
section
open Go.RowKit
attribute [local go_sem] dR dO dS dP
structure sM (W:World) (x:Cx) (q:Nat) (f t:Int) (m:List UInt8):Prop where
 c:Z4 W x
 q_:Blk W q 146 #[f,t,m]
variable {W w0 w:World} {x:Cx} {q n:Nat} {m:List UInt8}
theorem sM.cells0 {f t:Int} (h:sM W x q f t m):W.cell? x.C=Qs x.gA 2 x.cA/\W.cell? x.gA=Qp x.a0/\W.cell? (Qc x.a0 1)=Qp x.D0/\W.cell? (Qc q 1)=t/\W.cell? (Qc q 2)=m:=⟨h.c.c0,h.c.r0,h.c.o0,h.q_.cell 1,h.q_.cell 2⟩
theorem sM.cells1 {f t:Int} (h:sM W x q f t m):W.cell? x.C=Qs x.gA 2 x.cA/\W.cell? (Qc x.gA 1)=Qp x.a1/\W.cell? (Qc x.a1 1)=Qp x.D1/\W.cell? (Qc q 1)=t/\W.cell? (Qc q 2)=m:=⟨h.c.c0,h.c.r1,h.c.o1,h.q_.cell 1,h.q_.cell 2⟩
theorem sM.cellsN {f t:Int} (h:sM W x q f t m):W.cell? (Qc x.C 1)=Qp x.gN/\W.cell? q=f/\W.cell? (Qc q 1)=t:=⟨h.c.c1,h.q_.cell 0,h.q_.cell 1⟩
variable {U0:BS} {ps:List Nt.Pk}
theorem X9 {L0 L1 L':List dX} {P0 P1 P':List (List UInt8)} (m:List UInt8) (h:Cl w0 U0 w x L0 P0 L1 P1 (⟨1,0,m⟩ :: ps) n) (hp:ps.length < 400)
  (hh:∀w' F,fE w' F x.D0 0 L0 P0->Calls prog 199 #[Qp x.D0,m] w' λe w2=>∃F',e=.returned (.tuple #[(),qn])/\fE w2 F' x.D0 0 L' P'/\iP F F' w' w2):
  Calls prog 128 #[Qp x.C,qn] w λe w'=>e=.returned qn/\Cl w0 U0 w' x L' P' L1 P1 ps n:=by
 have HT:=dL (CI h (by omega));have HH:=dL hh;have c1:=h.cells.c1;clear h hh;go_enter func128,ntmps128;go_wp2_with fail;refine HT.o.mono ?_;rintro e w1 ⟨rfl,F0,F1,v,hj,hs⟩;have hal:=dH w1 (.cells #[yh,qn,m] 146);have ig:=Blk.new w1 146 #[yh,qn,m];obtain ⟨w2,eV⟩:=dG (w1.alloc (.cells #[yh,qn,m] 146));obtain ⟨q,hq⟩:=dG w1.heap.size;rw [<-eV] at hal ig;rw [<-hq] at ig;have HNF:dK (¬ F0 q):=dL (λhF=>by have:=hj.d0.bnd q hF;omega);have UQ:dK (¬ Nt.NS x.gN v q):=dL (λhF=>by have:=pJ hj.net q hF;omega);have hj2:=hj.later hal;have z8:=hj2.later (aC _ w2).drew;have Y7:=dL z8;have Y6:=dL ((hs.then_ hal).then_ (aC _ w2).drew);have M7:dK (sM w2 x q 1 0 m):=dL ⟨nH.cells hj2,ig⟩;have Vc:dK (sM w2.drew x q 1 0 m):=dL ⟨nH.cells z8,ig⟩;have HHd:=dL (HH.o _ _ z8.d0);have HW:=dL eV;have HQ:=dL hq;clear hal ig eV hq hj hj2 z8 c1 HT HH hs;unfold Nt.pv;go_upto_region 2 with (fail);rw [<-HQ.o,<-HW.o];go_wp2_with fail;go_region_held3 (λw'=>w'.cell? x.C=Qs x.gA 2 x.cA/\w'.cell? x.gA=Qp x.a0/\w'.cell? (Qc x.a0 1)=Qp x.D0/\w'.cell? (Qc q 1)=qn/\w'.cell? (Qc q 2)=m)
  (with_reducible first|exact sM.cells0 Cg.o|exact sM.cells0 Vc.o|exact sM.cells0 M7.o)
  (first|(go_at_call 199;refine HHd.o.mono ?_;rintro e w3 ⟨F',rfl,hd,st⟩;have IN:=Y7.o.stepD0 hd st;have QC:=dL IN;have B8:=dL (Y6.o.trans (CU.stp0 (x:=x) (F1:=F1) (v:=v) st));have Cg:dK (sM w3 x q 1 0 m):=dL ⟨nH.cells IN,Vc.o.q_.kp st.keeps HNF.o⟩;clear hd st IN))
 all_goals
  go_wp2_with fail;refine wp_loop_rounds 1 ?_;rw [rounds_succ];go_wp2_with fail;go_ret;exact ⟨rfl,_,_,_,QC.o,B8.o⟩
theorem Po {L0 L1 L':List dX} {P0 P1 P':List (List UInt8)} (m a:List UInt8) (h:Cl w0 U0 w x L0 P0 L1 P1 (⟨1,0,m⟩ :: ps) n) (hp:ps.length < 400) (ha:a.length<=60000) (hn:n<=900)
  (hh:∀w' F,fE w' F x.D0 0 L0 P0->Calls prog 199 #[Qp x.D0,m] w' λe w2=>∃F' g c,e=.returned (.tuple #[.slice (some ⟨g,0,none⟩) 1 c,qn])/\dQ w2 w'.heap.size 1 (.slice (some ⟨g,0,none⟩) 1 c) 1 [.string (bs a)]/\fE w2 F' x.D0 0 L' P'/\iP F F' w' w2):
  Calls prog 128 #[Qp x.C,qn] w λe w'=>e=.returned qn/\Cl w0 U0 w' x L' P' L1 P1 (ps++[⟨0,1,a⟩]) (n+1):=by
 have HT:=dL (CI h (by omega));have HH:=dL hh;have c1:=h.cells.c1;clear h hh;go_enter func128,ntmps128;go_wp2_with fail;refine HT.o.mono ?_;rintro e w1 ⟨rfl,F0,F1,v,hj,hs⟩;have hal:=dH w1 (.cells #[yh,qn,m] 146);have ig:=Blk.new w1 146 #[yh,qn,m];obtain ⟨w2,eV⟩:=dG (w1.alloc (.cells #[yh,qn,m] 146));obtain ⟨q,hq⟩:=dG w1.heap.size;rw [<-eV] at hal ig;rw [<-hq] at ig;have HNF:dK (¬ F0 q):=dL (λhF=>by have:=hj.d0.bnd q hF;omega);have UQ:dK (¬ Nt.NS x.gN v q):=dL (λhF=>by have:=pJ hj.net q hF;omega);have hj2:=hj.later hal;have z8:=hj2.later (aC _ w2).drew;have Y7:=dL z8;have Y6:=dL ((hs.then_ hal).then_ (aC _ w2).drew);have M7:dK (sM w2 x q 1 0 m):=dL ⟨nH.cells hj2,ig⟩;have Vc:dK (sM w2.drew x q 1 0 m):=dL ⟨nH.cells z8,ig⟩;have HHd:=dL (HH.o _ _ z8.d0);have HW:=dL eV;have HQ:=dL hq;clear hal ig eV hq hj hj2 z8 c1 HT HH hs;unfold Nt.pv;go_upto_region 2 with (fail);rw [<-HQ.o,<-HW.o];go_wp2_with fail;go_region_held3 (λw'=>w'.cell? x.C=Qs x.gA 2 x.cA/\w'.cell? x.gA=Qp x.a0/\w'.cell? (Qc x.a0 1)=Qp x.D0/\w'.cell? (Qc q 1)=qn/\w'.cell? (Qc q 2)=m)
  (with_reducible first|exact sM.cells0 Cg.o|exact sM.cells0 Vc.o|exact sM.cells0 M7.o)
  (first|(go_at_call 199;refine HHd.o.mono ?_;rintro e w3 ⟨F',g,c,rfl,ho,hd,st⟩;have IN:=Y7.o.stepD0 hd st;have QC:=dL IN;have B8:=dL (Y6.o.trans (CU.stp0 (x:=x) (F1:=F1) (v:=v) st));have Cg:dK (sM w3 x q 1 0 m):=dL ⟨nH.cells IN,Vc.o.q_.kp st.keeps HNF.o⟩;have Xf:=dL ho;clear ho;clear hd st IN))
 all_goals
  have k0:=(EI Xf.o).1;have z8:=QC.o.later (aC _ w3).drew;have aft:=dL z8;have afu:=dL (B8.o.then_ (aC _ w3).drew);have acF:dK (sM w3.drew x q 1 0 m):=dL ⟨nH.cells z8,Cg.o.q_⟩;clear z8;go_wp2_with fail;refine wp_loop_rounds 2 ?_;rw [rounds_succ];go_wp2_with fail;have HNS:dK (¬ Nt.NS x.gN v q):=UQ;go_region_held3 (λw'=>w'.cell? (Qc x.C 1)=Qp x.gN/\w'.cell? q=yh/\w'.cell? (Qc q 1)=qn)
   (with_reducible first|exact sM.cellsN Y3.o|exact sM.cellsN acF.o|exact sM.cellsN Cg.o)
   (first|(go_at_call 76;refine (yG aft.o ⟨0,1,a⟩ (show (0:Int)<=0/\(0:Int) < 2 by decide) (show (0:Int)<=1/\(1:Int) < 2 by decide) (show (0:Int)≠1 by decide) ha (by omega) (by omega)).mono ?_;rintro e w4 ⟨v4,rfl,hc,hk,Vt⟩;have HJ4:=dL hc;have Qm:=dL (afu.o.trans Vt);have Y3:dK (sM w4 x q 1 0 m):=dL ⟨nH.cells hc,acF.o.q_.kp hk HNS.o⟩;clear hc hk Vt))
  all_goals
   go_wp2_with fail;rw [rounds_succ];go_wp2_with fail;go_ret;exact ⟨rfl,_,_,_,HJ4.o,Qm.o⟩
theorem yH {L0 L1 L':List dX} {P0 P1 P':List (List UInt8)} (m:List UInt8) (h:Cl w0 U0 w x L0 P0 L1 P1 (⟨0,1,m⟩ :: ps) n) (hp:ps.length < 400)
  (hh:∀w' F,fE w' F x.D1 1 L1 P1->Calls prog 199 #[Qp x.D1,m] w' λe w2=>∃F',e=.returned (.tuple #[(),qn])/\fE w2 F' x.D1 1 L' P'/\iP F F' w' w2):
  Calls prog 128 #[Qp x.C,qn] w λe w'=>e=.returned qn/\Cl w0 U0 w' x L0 P0 L' P' ps n:=by
 have HT:=dL (CI h (by omega));have HH:=dL hh;have c1:=h.cells.c1;clear h hh;go_enter func128,ntmps128;go_wp2_with fail;refine HT.o.mono ?_;rintro e w1 ⟨rfl,F0,F1,v,hj,hs⟩;have hal:=dH w1 (.cells #[qn,yh,m] 146);have ig:=Blk.new w1 146 #[qn,yh,m];obtain ⟨w2,eV⟩:=dG (w1.alloc (.cells #[qn,yh,m] 146));obtain ⟨q,hq⟩:=dG w1.heap.size;rw [<-eV] at hal ig;rw [<-hq] at ig;have HNF:dK (¬ F1 q):=dL (λhF=>by have:=hj.d1.bnd q hF;omega);have UQ:dK (¬ Nt.NS x.gN v q):=dL (λhF=>by have:=pJ hj.net q hF;omega);have hj2:=hj.later hal;have z8:=hj2.later (aC _ w2).drew;have Y7:=dL z8;have Y6:=dL ((hs.then_ hal).then_ (aC _ w2).drew);have M7:dK (sM w2 x q 0 1 m):=dL ⟨nH.cells hj2,ig⟩;have Vc:dK (sM w2.drew x q 0 1 m):=dL ⟨nH.cells z8,ig⟩;have HHd:=dL (HH.o _ _ z8.d1);have HW:=dL eV;have HQ:=dL hq;clear hal ig eV hq hj hj2 z8 c1 HT HH hs;unfold Nt.pv;go_upto_region 2 with (fail);rw [<-HQ.o,<-HW.o];go_wp2_with fail;go_region_held3 (λw'=>w'.cell? x.C=Qs x.gA 2 x.cA/\w'.cell? (Qc x.gA 1)=Qp x.a1/\w'.cell? (Qc x.a1 1)=Qp x.D1/\w'.cell? (Qc q 1)=yh/\w'.cell? (Qc q 2)=m)
  (with_reducible first|exact sM.cells1 Cg.o|exact sM.cells1 Vc.o|exact sM.cells1 M7.o)
  (first|(go_at_call 199;refine HHd.o.mono ?_;rintro e w3 ⟨F',rfl,hd,st⟩;have IN:=Y7.o.stepD1 hd st;have QC:=dL IN;have B8:=dL (Y6.o.trans (CU.stp1 (x:=x) (F0:=F0) (v:=v) st));have Cg:dK (sM w3 x q 0 1 m):=dL ⟨nH.cells IN,Vc.o.q_.kp st.keeps HNF.o⟩;clear hd st IN))
 all_goals
  go_wp2_with fail;refine wp_loop_rounds 1 ?_;rw [rounds_succ];go_wp2_with fail;go_ret;exact ⟨rfl,_,_,_,QC.o,B8.o⟩
theorem th:(prog.info? 32).map (λi=>(i.zero,i.size,i.bytes))=some (some (.agg #[qn,qn,qn,qn,qn,qn,false,qn,qn,yj,yj]),11,104):=by kernel_rfl
theorem TT (s:dX) (A:Option Addr) (n c:Nat) (xs:List dX) (w:World) (hx:mR w A n c xs):
  Calls prog 104 #[Qq A n c,ov s] w λe w'=>∃i:Int,e=.returned i/\Below w w w':=by
 have dV:=dH w (.cells (oc s).toArray 32);have hB:=Blk.new w 32 (oc s).toArray;have hx1:=hx.below dV;have hn:=hx.len;have lg:=hx.max;have hle:=hx.le;obtain ⟨w1,hw1⟩:=dG (w.alloc (.cells (oc s).toArray 32));obtain ⟨B,uo⟩:=dG w.heap.size;rw [<-hw1] at hB dV hx1;rw [<-uo] at hB;have mK:=dL hB;have HW:=dL (dN (x:=s) hw1);have HX:=dL hx1;have HB:=dL dV;have rG:=dL uo;clear hw1 hx1 dV hB hx uo;unfold ov;go_enter func104,ntmps104;go_wp2_with fail;rw [<-HW.o,<-rG.o];go_loopw [8] (λi wr=>∃k:Nat,k<=xs.length/\i=.int .i64 k/\Below w1 w1 wr) (λi _=>xs.length - (intOf i).toNat)
 case atStart=>exact ⟨0,by omega,rfl,aC _ _⟩
 case round=>
  obtain ⟨k,hk,rfl,hb⟩:=hrel;have nI:=HB.o.trans (hb.mono HB.o.size);rcases aD k xs.length with hlt|hge
  ·obtain ⟨b,off,rfl,jW,c0,c1,c2,c3,c4,c5,c6,c7,c8,c9,jX,_⟩:=mR.at_ (HX.o.below hb) hlt
   obtain ⟨q0,q1,q2,q3,q4,q5,q6,q7,q8,q9,qE⟩:=dx (mK.o.below hb mK.o.lt);generalize xs[k]=x at*;have he:=E7 s x;unfold ov at he;have fI:=dL hb;have To:=dL nI;have hki:(k:Int) < (n:Int):=by omega
   clear hb nI;cases hc:decide (s=x) with
   |true=>
    rw [hc] at he;clear hc;go_wp2_with fail;go_quiet (fail)
    have ef:=dL (below_drewN To.o nq);go_wp2_with fail;go_ret;exact ⟨_,rfl,ef.o⟩
   |false=>
    rw [hc] at he;clear hc;go_wp2_with fail;go_quiet (fail)
    have ef:=dL (below_drewN fI.o nq);go_wp2_with fail;exact ⟨⟨k+1,by omega,by go_num,ef.o⟩,by simp [intOf];omega⟩
  ·have hkn:¬ (k:Int) < (n:Int):=by omega
   have To:=dL nI;clear hb nI;go_wp2_with fail;go_ret;exact ⟨⟨_,rfl⟩,To.o⟩
theorem Hh (s:dX) (A:Option Addr) (n c:Nat) (xs:List dX) (w:World) (hx:mR w A n c xs):
  Calls prog 57 #[Qq A n c,ov s] w λe w'=>∃r:Bool,e=.returned r/\Below w w w':=by
 have dV:=dH w (.cells (oc s).toArray 32);have HI:=dL (TT s A n c xs _ (hx.below dV));have HB:=dL dV;clear dV hx;unfold ov oc at*;go_enter func57,ntmps57;go_wp2_with fail;refine HI.o.mono ?_;rintro e w2 ⟨i,rfl,dY⟩;have dn:=dJ HB dY;clear dY;go_wp2_with fail;go_ret;exact ⟨_,rfl,dn.o⟩
theorem Lm (q:Nat) (y x:dX) (w:World) (hq:Blk w q 32 (oc y).toArray):
  Calls prog 60 #[ov x,Qp q] w (dM w (.bool (di y.st x.st))):=by
 have hb:=dH w (.cells (oc x).toArray 32);have hq1:=hq.alloc (.cells (oc x).toArray 32);have hB:=Blk.new w 32 (oc x).toArray;obtain ⟨c0,c1,_⟩:=dx hq1;obtain ⟨e0,e1,_⟩:=dx hB;have hl:=rN y.st x.st (w.alloc (.cells (oc x).toArray 32));unfold sv oc at hl;unfold oc at c0 c1 e0 e1 hb;have HL:=dL hl;have HB:=dL hb;clear hb hB hq hq1 hl;unfold ov;go_enter func60,ntmps60;go_wp2_with fail;refine HL.o.mono ?_;rintro e w2 ⟨rfl,dY⟩;have dn:=dJ HB dY;clear dY;go_wp2_with fail;go_ret;exact ⟨rfl,dn.o⟩
theorem Ei (q:Nat) (y:dX) (A:Option Addr) (n c:Nat) (xs:List dX) (w:World) (hx:mR w A n c xs) (hq:Blk w q 32 (oc y).toArray):
  Calls prog 59 #[Qq A n c,.func (.func 60) #[] #[.pointer (some ⟨q,0,none⟩)]] w (dM w (.int .i64 (gR (λz=>di y.st z.st) xs))):=by
 have FV:=hq.lt;have hn:=hx.len;have lg:=hx.max;have hle:=hx.le;have HX:=dL hx;have HQ:=dL hq;clear hx hq;go_enter func59,ntmps59;go_wp2_with fail;go_loopw [8] (λi wr=>∃k:Nat,k<=xs.length/\i=.int .i64 k/\Below w w wr/\∀j (hj:j < xs.length),j < k->di y.st xs[j].st=false) (λi _=>xs.length - (intOf i).toNat)
 case atStart=>exact ⟨0,by omega,rfl,aC _ _,λj _ h=>by omega⟩
 case round=>
  obtain ⟨k,hk,rfl,hb,hall⟩:=hrel;rcases aD k xs.length with hlt|hge
  ·obtain ⟨b,off,rfl,jW,c0,c1,c2,c3,c4,c5,c6,c7,c8,c9,jX,_⟩:=mR.at_ (HX.o.below hb) hlt
   have JS:=HQ.o.below hb FV;have HA:=dL hall;have hcl:=Lm q y xs[k] wr JS;obtain ⟨x,hx⟩:∃x,xs[k]=x:=⟨_,rfl⟩;rw [hx] at c0 c1 c2 c3 c4 c5 c6 c7 c8 c9 jX hcl;unfold ov at hcl;have wB:=dL hcl;have nB:=dL hx;have HB:=dL hb;have hki:(k:Int) < (n:Int):=by omega
   clear hall hx hb JS hcl;go_wp2_with fail;refine wB.o.mono ?_;rintro e w2 ⟨rfl,dY⟩;have dn:=HB.o.trans (dY.mono HB.o.size);cases hc:di y.st x.st with
   |true=>
    go_wp2_with fail;have dy:gR (λz=>di y.st z.st) xs=k:=tc hlt (by show di y.st xs[k].st=true;rw [nB.o];exact hc) HA.o;go_ret;exact ⟨by rw [dy];rfl,dn⟩
   |false=>
    go_wp2_with fail;exact ⟨⟨k+1,by omega,by go_num,dn,λj hj hjk=>by
     by_cases e:j=k
     ·subst e;rw [nB.o];exact hc
     ·exact HA.o j hj (by omega)⟩,by simp [intOf];omega⟩
  ·have hkn:¬ (k:Int) < (n:Int):=by omega
   have dy:gR (λz=>di y.st z.st) xs= -1:=pI λj hj=>hall j hj (by omega)
   clear hall;go_wp2_with fail;go_ret;exact ⟨rfl,hb⟩
theorem vv (A:Option Addr) (n c:Nat) (xs:List dX) (w:World) (hx:mR w A n c xs) (hm:n<=1000000):
  Calls prog 62 #[Qq A n c] w λe w'=>∃v,e=.returned v/\gU w' w v xs/\Below w w w':=by
 obtain ⟨i0,gV,hz0,hz1,hz2⟩:=info_parts th;have hn:=hx.len;cases A with
 |none=>
  have h0:xs=[]:=by
   cases hxs:xs with
   |nil=>rfl
   |cons x r=>
    obtain ⟨b,off,cs,e,_⟩:=hx.4 0 (by rw [hxs];simp);cases e
  subst h0;clear hx gV hz0 hz1 hz2;have he:=λw=>Lib.run_eql_slice_nil (P:=prog) w 22 32 none n c 0 0 underlying22
  go_enter func62,ntmps62;go_wp2_with fail;go_ret;exact ⟨_,rfl,dQ.nil_ _ _ _,aC _ _⟩
 |some a=>
  have dV:=dH w (.cells #[] 32);have hO:dQ (w.alloc (.cells #[] 32)) w 11 (.slice (some w) 0 0) 0 []:=
   ⟨rfl,.inr ⟨w.heap.size,0,rfl,aB _,by simp,aB _,by decide,λj hj=>by omega,λj hj=>by omega,λj u hu=>by simp at hu⟩⟩
  have hS:=Src.ops (hx.below dV);have HB:=dL dV;have HO:=dL hO;have HS:=dL hS;have HI:=dL gV;have gx:=dL hz0;have gJ:=dL hz1;have gT:=dL hz2;clear hx dV hO hS gV hz0 hz1 hz2;have he:=λw=>Lib.run_eql_slice_nil (P:=prog) w 22 32 (some a) n c 0 0 underlying22
  go_enter func62,ntmps62;go_wp2_with (at_builtin;refine dW _ rfl (.tmp 5) (.tmp 6) 22 22 rfl 32 i0 (.agg #[qn,qn,qn,qn,qn,qn,false,qn,qn,yj,yj]) 11 underlying22 HI.o gx.o gJ.o rfl (by decide) w _ 0 [] rfl HO.o (.slice (some a) n c) rfl n (iw xs) ?c1 ?c3 ?c4 ?c5 ?_)
  case c1=>exact HS.o
  case c3=>unfold maxLen;omega
  case c4=>rw [gT.o];omega
  case c5=>simp
  intro v' w3 hown hgrow fR;have zU:=dL (show gU w3 w v' xs by unfold gU;rw [hn];simpa using hown);have qA:=dL (iD HB.o (aB _) (by simp) HO.o hgrow);clear hown hgrow fR;go_wp2_with fail;go_ret;exact ⟨_,rfl,zU.o,qA.o⟩
theorem abc (a b:Addr) (la ca lb cb:Nat) (w:World) (hne:a.block≠b.block) (tA tB:TypeId) (kA kB:Nat) (hsa:w.shape? a.block=some (tA,kA)) (hsb:w.shape? b.block=some (tB,kB)) (hkB:kB≠0) (hfa:w.frozen? a=false) (hfe:w.frozen? { block:=a.block,off:=kA }=false):
  (callFunc 105 #[.slice (some a) la ca,.slice (some b) lb cb]).run prog w=.ok (.value (.bool false)) w:=by
 have hz:∀w,(Go.sizeOf 32).run prog w=.ok 11 w:=λw=>by
  obtain ⟨i0,gV,hz0,hz1,hz2⟩:=info_parts th;simp [sizeOf,typeInfo,gV,hz1]
 rw [run_callFunc_extern func105 (by kernel_rfl) (by kernel_rfl) (by kernel_rfl) (e:=Extern.SlicesOverlaps.overlaps #[22,22] #[4]) (by kernel_rfl),
  Lib.run_overlaps_apart w 22 4 32 underlying22 11 hz a b la ca lb cb hne tA tB kA kB hsa hsb hkB hfa hfe]
 rfl
def iy (B:Nat) (w:World) (v:Value) (n k:Nat) (cs vs:List Value) (e:Ending) (w':World):Prop:=
 ∃v',e=.returned v'/\dQ w' B 11 v' (n+1) (cs.take (k*11)++(vs++cs.drop (k*11)))/\w.grownBy w' v.ownBlock/\(v'.ownBlock=v.ownBlock\/v'.ownBlock=some w.heap.size)
theorem CJ (B:Nat) (v:Value) (n:Nat) (cs vs:List Value) (vb vc:Nat) (w:World) (hO:dQ w B 11 v n cs) (hm:n<=1000000) (hvl:vs.length=11) (nG:∀u∈vs,u.oneCell'=true)
  (hvs:∀j u,vs[j]? =some u->w.cell? ⟨vb,0+j,none⟩=some u) (hB:B<=w.heap.size):
  Calls prog 61 #[v,n,Qs vb 1 vc] w (iy B w v n n cs vs):=by
 obtain ⟨i0,gV,hz0,hz1,hz2⟩:=info_parts th;have hsrc:Src prog 11 22 (.slice (some vb) 1 vc) 1 vs w:=Src.ofSlice w underlying22 ⟨vb,0,none⟩ 1 vc vs (by omega) (λj u hj=>by rw [Addr.add_lit];exact hvs j u hj) nG;have hcl:=hO.len;have e1:cs.take (n*11)++(vs++cs.drop (n*11))=cs++vs:=by rw [af (by omega),cw (by omega),bG]
 unfold iy;rw [e1];have HO:=dL hO;have HS:=dL hsrc;have HI:=dL gV;have gx:=dL hz0;have gJ:=dL hz1;have gT:=dL hz2;have HB:=dL hB;rcases hO.2 with ⟨rfl,rfl⟩| ⟨g,cap,rfl,hb,hlt,hnc,hcm,hs,hf,hx⟩
 ·clear hsrc gV hz0 hz1 hz2 hB hvs nG e1 hcl hO hvl
  go_enter func61,ntmps61;go_wp2_with (at_builtin;refine dW _ rfl (.tmp 23) (.tmp 24) 22 22 rfl 32 i0 (.agg #[qn,qn,qn,qn,qn,qn,false,qn,qn,yj,yj]) 11 underlying22 HI.o gx.o gJ.o rfl (by decide) B _ 0 cs rfl HO.o (.slice (some vb) 1 vc) rfl 1 vs HS.o (by unfold maxLen;omega) (by rw [gT.o];omega) HB.o ?_)
  intro v' w3 hown hgrow fR;have H1:=dL hown;have H2:=dL hgrow;have H3:=dL fR;clear hown hgrow fR;go_wp2_with fail;go_ret;exact ⟨_,rfl,H1.o,H2.o,H3.o⟩
 ·unfold maxLen at hcm
  clear hsrc gV hz0 hz1 hz2 hB hvs nG e1 hcl hO hvl hs hf hx;rcases aD n cap with hc|hc
  ·go_enter func61,ntmps61
   go_wp2_with (at_builtin;refine dW _ rfl (.tmp 23) (.tmp 24) 22 22 rfl 32 i0 (.agg #[qn,qn,qn,qn,qn,qn,false,qn,qn,yj,yj]) 11 underlying22 HI.o gx.o gJ.o rfl (by decide) B _ n cs rfl HO.o (.slice (some vb) 1 vc) rfl 1 vs HS.o (by unfold maxLen;omega) (by rw [gT.o];omega) HB.o ?_)
   intro v' w3 hown hgrow fR;have H1:=dL hown;have H2:=dL hgrow;have H3:=dL fR;clear hown hgrow fR;go_wp2_with fail;go_ret;exact ⟨_,rfl,H1.o,H2.o,H3.o⟩
  ·obtain rfl:cap=n:=by omega
   go_enter func61,ntmps61;go_wp2_with (at_builtin;refine dW _ rfl (.tmp 23) (.tmp 24) 22 22 rfl 32 i0 (.agg #[qn,qn,qn,qn,qn,qn,false,qn,qn,yj,yj]) 11 underlying22 HI.o gx.o gJ.o rfl (by decide) B _ _ cs rfl HO.o (.slice (some vb) 1 vc) rfl 1 vs HS.o (by unfold maxLen;omega) (by rw [gT.o];omega) HB.o ?_)
   intro v' w3 hown hgrow fR;have H1:=dL hown;have H2:=dL hgrow;have H3:=dL fR;clear hown hgrow fR;go_wp2_with fail;go_ret;exact ⟨_,rfl,H1.o,H2.o,H3.o⟩
theorem yI (B g cap n k:Nat) (cs vs:List Value) (vb vc:Nat) (w:World) (hO:dQ w B 11 (.slice (some g) n cap) n cs) (hm:n<=1000000) (hk:k < n) (hroom:n+1<=cap) (hvl:vs.length=11) (h1c:∀u∈cs,u.oneCell'=true) (nG:∀u∈vs,u.oneCell'=true)
  (hvs:∀j u,vs[j]? =some u->w.cell? ⟨vb,0+j,none⟩=some u) (Jj:vb≠g) (tA:TypeId) (kA:Nat) (hsa:w.shape? vb=some (tA,kA)) (hfa:w.frozen? ⟨vb,0,none⟩=false) (hfe:w.frozen? ⟨vb,kA,none⟩=false):
  Calls prog 61 #[Qs g n cap,k,Qs vb 1 vc] w (iy B w (.slice (some g) n cap) n k cs vs):=by
 obtain ⟨i0,gV,hz0,hz1,hz2⟩:=info_parts th;have hcl:=hO.len;rcases hO.2 with ⟨h,_⟩| ⟨g',cap',he,hb,hlt,hnc,hcm,hs,hf,hx⟩
 ·cases h
 obtain ⟨rfl,rfl⟩:g=g'/\cap=cap':=by cases he;exact ⟨rfl,rfl⟩
 have abw:cap<=9223372036854775807:=by unfold maxLen at hcm;omega
 have hcs:(n+1)*11<=cap*11:=bA _ hroom;obtain ⟨u0,MW⟩:=Option.isSome_iff_exists.1 (hs 0 (by omega));obtain ⟨tB,kB,hsb,hkB⟩:=mL MW;have hsz:(prog.info? 32).map (·.size)=some 11:=by rw [gV];simp [hz1]
 have Te:∀lb cb,(callFunc 105 #[Qs vb 1 vc,.slice (some ⟨g,(k+1)*11,none⟩) lb cb]).run prog w=.ok (.value (.bool false)) w:=λlb cb=>abc ⟨vb,0,none⟩ ⟨g,(k+1)*11,none⟩ 1 vc lb cb w Jj tA tB kA kB hsa hsb hkB hfa hfe
 have vw:(cs.drop (k*11)).length=(n - k)*11:=by rw [ah,hcl];omega
 have Ev:∀ty dc sc,(Builtin.copy_ #[22,22] ty #[.slice (some ⟨g,(k+1)*11,none⟩) (n+1 - (k+1)) dc,.slice (some ⟨g,k*11,none⟩) (n+1 - k) sc]).run prog w.drew=.ok (goInt (Nat.min (n+1 - k) (n+1 - (k+1)):Nat)) (w.drew.setCells g ((k+1)*11) (cs.drop (k*11))):=λty dc sc=>
  ep w.drew _ _ ty 32 11 g ((k+1)*11) (n+1 - (k+1)) dc ⟨g,k*11,none⟩ (n+1 - k) sc (cs.drop (k*11)) underlying22 hsz (by rw [vw];simp only [Nat.min_def];split <;> omega)
   (λj v hj=>by rw [Addr.add_lit];exact hx _ v (by rwa [List.getElem?_drop] at hj))
   (λj hj=>hs _ (by omega)) (λj hj=>hf _ (by omega)) (λv hv=>h1c v (cH hv))
 obtain ⟨W1,je⟩:=dG (w.drew.setCells g ((k+1)*11) (cs.drop (k*11)));have Ew:∀j,j < cap*11->(W1.cell? ⟨g,j,none⟩).isSome=true:=λj hj=>by
  rw [je];exact World.isSome_setCells g _ _ _ _ (hs j hj)
 have CS:∀(W:World),(∀x,W.cell? x=W1.cell? x)->(∀x,W.frozen? x=W1.frozen? x)->∀ty dc,(Builtin.copy_ #[22,22] ty #[.slice (some ⟨g,k*11,none⟩) (n+1 - k) dc,Qs vb 1 vc]).run prog W=.ok (goInt (Nat.min 1 (n+1 - k):Nat)) (W.setCells g (k*11) vs):=λW uj FF ty dc=>
  ep W _ _ ty 32 11 g (k*11) (n+1 - k) dc ⟨vb,0,none⟩ 1 vc vs underlying22 hsz (by rw [hvl];simp only [Nat.min_def];split <;> omega)
   (λj v hj=>by
    rw [Addr.add_lit,uj,je,World.cell?_setCells_out g _ _ _ _ (λh _=>absurd h Jj)];exact hvs j v hj)
   (λj hj=>by rw [uj];exact Ew _ (by omega)) (λj hj=>by rw [FF,je,World.frozen?_setCells];exact hf _ (by omega)) nG
 rw [<-je] at Ev;have dy:=su (w:=w.drew) (B:=B) hcl hvl (ag hk) hroom hb hlt hcm hs hf hx;have HF:=dL dy;have hw1:IntKind.i64.wrap ((k:Int)+1)=(k:Int)+1:=by rw [IntKind.wrap_i64];omega
 have dV:(0:Int)<=(k:Int)+1:=by omega
 have hin:k<=n:=by omega
 have htn:((k:Int)+1).toNat=k+1:=by omega
 have dY:¬ (cap=k+1):=by omega
 have dn:(k:Int)<=(n:Int)+1:=by omega
 have hb4:¬ (cap=k):=by omega
 have QF:¬ ((k:Int)=(n:Int)):=by omega
 clear dy hx hs hf Ew hvs h1c nG vw hcl MW hsb hkB gV hz0 hz1 hz2 hO he hcs hsa hfa hfe hsz hvl;clear hcm;unfold iy;go_enter func61,ntmps61;go_wp2_with (simp only [Te])
 go_region_law (refine gL rfl (.tmp 73) (.tmp 76) 22 22 rfl (.slice (some ⟨g,(k+1)*11,none⟩) (n+1 - (k+1)) (cap - (k+1))) (.slice (some ⟨g,k*11,none⟩) (n+1 - k) (cap - k)) (by simp [Act.eval,Act.put]) (by simp [Act.eval,Act.put]) (Ev _ _ _) ?_)
 go_wp2_with (at_builtin;refine ew _ rfl _ _ 22 22 rfl _ _ rfl rfl (CS _ (λ_=>rfl) (λ_=>rfl) _ _) ?_)
 go_ret;exact ⟨_,rfl,HF.o.1,⟨HF.o.2.os,HF.o.2.tape,HF.o.2.output,HF.o.2.size,HF.o.2.block⟩,.inl rfl⟩
theorem zT (B g cap n k:Nat) (cs vs:List Value) (vb vc:Nat) (w:World) (hO:dQ w B 11 (.slice (some g) n cap) n cs) (hm:n<=1000000) (hk:k < n) (hroom:cap < n+1) (hvl:vs.length=11) (h1c:∀u∈cs,u.oneCell'=true) (nG:∀u∈vs,u.oneCell'=true)
  (hvs:∀j u,vs[j]? =some u->w.cell? ⟨vb,0+j,none⟩=some u) (hB:B<=w.heap.size):
  Calls prog 61 #[Qs g n cap,k,Qs vb 1 vc] w (iy B w (.slice (some g) n cap) n k cs vs):=by
 obtain ⟨i0,gV,hz0,hz1,hz2⟩:=info_parts th;have hcl:=hO.len;rcases hO.2 with ⟨h,_⟩| ⟨g',cap',he,hb,hlt,hnc,hcm,hs,hf,hx⟩
 ·cases h
 obtain ⟨rfl,rfl⟩:g=g'/\cap=cap':=by cases he;exact ⟨rfl,rfl⟩
 obtain rfl:n=cap:=by omega
 have hsz:(prog.info? 32).map (·.size)=some 11:=by rw [gV];simp [hz1]
 have hvw:vb < w.heap.size:=eB (hvs 0 _ (bh (by omega)));have hkk:(n:Int)+1 - (k:Int)=((n+1 - k:Nat):Int):=by omega
 have hik:k+(n+1 - k)=n+1:=by omega
 have hkl:k*11<=n*11:=bA _ (by omega);have htl:(cs.take (k*11)).length=k*11:=by rw [aR,hcl];omega
 have hold:(Builtin.firstCells i0.size k (.slice (some g) k n)).run prog w.drew=.ok (cs.take (k*11)).toArray w.drew:=by
  rw [hz1];exact run_firstCells_some w.drew 11 k ⟨g,0,none⟩ k n (cs.take (k*11)) htl (λj v hj=>by
   rw [Addr.add_lit];rw [List.getElem?_take] at hj;split at hj
   ·rw [aV];exact hx j v hj
   ·cases hj)
 have JV:∀ty,(Builtin.append_ #[22,3] ty #[Qs g k n,.int .i64 ((n:Int)+1 - (k:Int))]).run prog w=
   .ok (.slice (some w) (n+1) (grownCap w (n+1) n 32)) (w.drew.alloc (.cells ((cs.take (k*11)).toArray++Builtin.zeroCells (.agg #[qn,qn,qn,qn,qn,qn,false,qn,qn,yj,yj]:Value).cells (n+1 - k)++Builtin.zeroCells (.agg #[qn,qn,qn,qn,qn,qn,false,qn,qn,yj,yj]:Value).cells (grownCap w (n+1) n 32 - (n+1))) 32)):=λty=>by
  have h:=Lib.run_append_grow_zeros w 22 3 ty 32 i0 _ .i64 .i64 underlying22 underlying3 gV hz0 (some ⟨g,0,none⟩) k n (cs.take (k*11)) hold (n+1 - k) (by omega) (by omega) (by omega) (by omega) (by rw [hz2];omega) (by rw [hz2,hik];exact growslice_fits (by omega) (by omega));rw [hik] at h;rw [hkk];exact h
 obtain ⟨G,hG⟩:=dG (grownCap w (n+1) n 32);obtain ⟨iZ,sX⟩:∃iZ:Array Value,iZ=(cs.take (k*11)).toArray++Builtin.zeroCells (.agg #[qn,qn,qn,qn,qn,qn,false,qn,qn,yj,yj]:Value).cells (n+1 - k)++Builtin.zeroCells (.agg #[qn,qn,qn,qn,qn,qn,false,qn,qn,yj,yj]:Value).cells (G - (n+1)):=⟨_,rfl⟩;rw [<-hG] at JV;rw [<-sX] at JV;have VG:n+1<=G:=by rw [hG];exact grownCap_ge w _ _ _
 have QG:G<=maxLen:=by rw [hG];exact grownCap_le_maxLen w (n+1) n 32 (by unfold maxLen;omega)
 have abx:G<=9223372036854775807:=by unfold maxLen at QG;omega
 have hzl:(.agg #[qn,qn,qn,qn,qn,qn,false,qn,qn,yj,yj]:Value).cells.size=11:=rfl;have QH:iZ.size=G*11:=by
  rw [sX];simp only [Array.size_append,bW,size_zeroCells,hzl,htl];omega
 have VH:∀j u,j < k*11->cs[j]? =some u->iZ[j]? =some u:=λj u hj hu=>by
  rw [sX,Array.append_assoc,Array.getElem?_append_left (by rw [bW,htl];exact hj)];simpa [bf hj] using hu
 obtain ⟨W1,je⟩:=dG (w.drew.alloc (.cells iZ 32));rw [<-je] at JV;have MU:∀j,W1.cell? ⟨w.heap.size,j,none⟩=iZ[j]?:=λj=>by rw [je];exact World.cell?_alloc_at (w:=w.drew) iZ _ w j rfl
 have hN:∀j,j < G*11->(W1.cell? ⟨w.heap.size,j,none⟩).isSome=true:=λj hj=>by
  rw [MU,cG (by omega)];rfl
 have JW:∀j,W1.frozen? ⟨w.heap.size,j,none⟩=false:=λj=>by rw [je];exact World.frozen?_alloc_at (w:=w.drew) iZ _ w j rfl
 have VJ:∀j v,w.cell? ⟨g,j,none⟩=some v->W1.cell? ⟨g,j,none⟩=some v:=λj v h=>by rw [je,dB (w:=w.drew) _ g j hlt];exact h
 have VK:∀j v,w.cell? ⟨vb,j,none⟩=some v->W1.cell? ⟨vb,j,none⟩=some v:=λj v h=>by rw [je,dB (w:=w.drew) _ vb j hvw];exact h
 have hk1:(k+1)*11=k*11+11:=Nat.succ_mul _ _;have hcs:(n+1)*11<=G*11:=bA _ VG;have QI:∀(W:World),(∀x,W.cell? x=W1.cell? x)->(∀x,W.frozen? x=W1.frozen? x)->∀ty dc,(Builtin.copy_ #[22,22] ty #[.slice (some ⟨w.heap.size,k*11,none⟩) (n+1 - k) dc,Qs vb 1 vc]).run prog W=.ok (goInt (Nat.min 1 (n+1 - k):Nat)) (W.setCells w (k*11) vs):=λW uj FF ty dc=>
  ep W _ _ ty 32 11 w (k*11) (n+1 - k) dc ⟨vb,0,none⟩ 1 vc vs underlying22 hsz (by rw [hvl];simp only [Nat.min_def];split <;> omega)
   (λj v hj=>by rw [Addr.add_lit,uj];exact VK _ v (hvs j v hj))
   (λj hj=>by rw [uj];exact hN _ (by omega)) (λj hj=>by rw [FF];exact JW _) nG
 have hGi:¬ (G=k):=by omega
 have aby:¬ (G=k+1):=by omega
 have sN:¬ (n=k):=by omega
 have QJ:g≠w.heap.size:=by omega
 have vw:(cs.drop (k*11)).length=(n - k)*11:=by rw [ah,hcl];omega
 have Ex:∀(W:World),(∀x,W.cell? x=(W1.setCells w (k*11) vs).cell? x)->(∀x,W.frozen? x=(W1.setCells w (k*11) vs).frozen? x)->∀ty dc sc,(Builtin.copy_ #[22,22] ty #[.slice (some ⟨w.heap.size,(k+1)*11,none⟩) (n+1 - (k+1)) dc,.slice (some ⟨g,k*11,none⟩) (n - k) sc]).run prog W=.ok (goInt (Nat.min (n - k) (n+1 - (k+1)):Nat)) (W.setCells w ((k+1)*11) (cs.drop (k*11))):=λW uj FF ty dc sc=>
  ep W _ _ ty 32 11 w ((k+1)*11) (n+1 - (k+1)) dc ⟨g,k*11,none⟩ (n - k) sc (cs.drop (k*11)) underlying22 hsz (by rw [vw];simp only [Nat.min_def];split <;> omega)
   (λj v hj=>by
    rw [Addr.add_lit,uj,World.cell?_setCells_out _ _ _ _ _ (λh _=>absurd h QJ)];exact VJ _ v (hx _ v (by rwa [List.getElem?_drop] at hj)))
   (λj hj=>by rw [uj];exact World.isSome_setCells _ _ _ _ _ (hN _ (by omega)))
   (λj hj=>by rw [FF,World.frozen?_setCells];exact JW _) (λv hv=>h1c v (cH hv))
 have dy:=sw (W:=W1) (B:=B) (g:=w.heap.size) hcl hvl (ag hk) VG hB (by rw [je];exact (by simp:w.heap.size < (w.drew.alloc (.cells iZ 32)).heap.size)) QG hN (λj _=>JW j) (λj u hj hu=>by rw [MU];exact VH j u hj hu);have hgb:w.grownBy ((W1.setCells w (k*11) vs).setCells w ((k+1)*11) (cs.drop (k*11))) (some g):=by
  have h1:Below w w W1:=by rw [je];exact ((aC w w).drew).alloc (aB _) _
  exact fC (h1.trans ⟨dy.2.os,dy.2.tape,dy.2.output,dy.2.size,λi hi=>dy.2.block i (aN hi h1.size) (λe=>by cases e;omega)⟩) _
 have HF:dK (dQ (((w.alloc (.cells iZ 32)).drew.setCells w (k*11) vs).drew.setCells w ((k+1)*11) (cs.drop (k*11))) B 11 (.slice (some w) (n+1) G) (n+1) (cs.take (k*11)++(vs++cs.drop (k*11)))/\
   w.grownBy (((w.alloc (.cells iZ 32)).drew.setCells w (k*11) vs).drew.setCells w ((k+1)*11) (cs.drop (k*11))) (some g)):=by
  have he:(((w.alloc (.cells iZ 32)).drew.setCells w (k*11) vs).drew.setCells w ((k+1)*11) (cs.drop (k*11))).heap=((W1.setCells w (k*11) vs).setCells w ((k+1)*11) (cs.drop (k*11))).heap:=
   fA _ _ _ _ _ (fA _ _ _ (w.alloc (.cells iZ 32)).drew _ (by rw [je];rfl))
  refine show _/\_ from ⟨dy.1.heap_eq he,⟨?_,?_,?_,by rw [he];exact hgb.size,λi hi hne=>by rw [he];exact hgb.block i hi hne⟩⟩
  ·rw [fu];exact fu _ _ _ _
  ·rw [eS];exact eS _ _ _ _
  ·rw [fV];exact fV _ _ _ _
 subst je;have ZA:∀x,((w.alloc (.cells iZ 32)).drew).cell? x=(w.drew.alloc (.cells iZ 32)).cell? x:=λx=>rfl
 have ZB:∀x,((w.alloc (.cells iZ 32)).drew).frozen? x=(w.drew.alloc (.cells iZ 32)).frozen? x:=λx=>rfl
 have hF1:∀x,(((w.alloc (.cells iZ 32)).drew.setCells w (k*11) vs).drew).cell? x=((w.drew.alloc (.cells iZ 32)).setCells w (k*11) vs).cell? x:=λx=>rfl
 have hF2:∀x,(((w.alloc (.cells iZ 32)).drew.setCells w (k*11) vs).drew).frozen? x=((w.drew.alloc (.cells iZ 32)).setCells w (k*11) vs).frozen? x:=λx=>rfl
 have hw1:IntKind.i64.wrap ((k:Int)+1)=(k:Int)+1:=by rw [IntKind.wrap_i64];omega
 have dV:(0:Int)<=(k:Int)+1:=by omega
 have hin:k<=n:=by omega
 have htn:((k:Int)+1).toNat=k+1:=by omega
 have dn:(k:Int)<=(n:Int):=by omega
 have QF:¬ ((k:Int)=(n:Int)):=by omega
 clear hkk hik hold sX hG QH VH MU hN JW VJ VK hx hs hf dy hgb vw hcs hk1 htl hkl hvs h1c nG hO he gV hz0 hz1 hz2 hsz hcl hvl QG hcm hzl;unfold iy;go_enter func61,ntmps61;go_wp2_with (first
  |(at_builtin;refine Lib.wpList_append_run _ rfl _ _ _ _ rfl _ _ rfl rfl _ _ (JV _) ?_)
  |(at_builtin;refine ew _ rfl _ _ 22 22 rfl _ _ rfl rfl (QI _ ZA ZB _ _) ?_)
  |(at_builtin;refine ew _ rfl _ _ 22 22 rfl _ _ rfl rfl (Ex _ (λ_=>rfl) (λ_=>rfl) _ _ _) ?_))
 go_region_law (refine gL rfl _ _ 22 22 rfl (.slice (some ⟨w.heap.size,(k+1)*11,none⟩) (n+1 - (k+1)) (G - (k+1))) (.slice (some ⟨g,k*11,none⟩) (n - k) (n - k)) (by simp [Act.eval,Act.put]) (by simp [Act.eval,Act.put]) (Ex _ hF1 hF2 3 (G - (k+1)) (n - k)) ?_)
 go_wp2;go_ret;exact ⟨_,rfl,HF.o.1,⟨HF.o.2.os,HF.o.2.tape,HF.o.2.output,HF.o.2.size,HF.o.2.block⟩,.inr rfl⟩
theorem kW (B:Nat) (v:Value) (n k:Nat) (cs vs:List Value) (vb vc:Nat) (w:World) (hO:dQ w B 11 v n cs) (hm:n<=1000000) (hk:k<=n) (hvl:vs.length=11) (h1c:∀u∈cs,u.oneCell'=true) (nG:∀u∈vs,u.oneCell'=true)
  (hV:Blk w vb 32 vs.toArray) (Jj:v.ownBlock≠some vb) (hB:B<=w.heap.size):
  Calls prog 61 #[v,k,Qs vb 1 vc] w (iy B w v n k cs vs):=by
 have hvs:∀j u,vs[j]? =some u->w.cell? ⟨vb,0+j,none⟩=some u:=λj u hu=>by rw [aV,hV.cell];simpa using hu
 rcases aD k n with hlt|hge
 ·have MV:=hO
  rcases hO.2 with ⟨rfl,rfl⟩| ⟨g,cap,rfl,hb,hlt2,hnc,hcm,hs,hf,hx⟩
  ·omega
  have hne:vb≠g:=λe=>Jj (by rw [e];rfl)
  rcases aD n cap with hc|hc
  ·exact yI B g cap n k cs vs vb vc w MV hm hlt hc hvl h1c nG hvs hne _ _ hV.shape (hV.frozen 0) (hV.frozen _)
  ·exact zT B g cap n k cs vs vb vc w MV hm hlt (by omega) hvl h1c nG hvs hB
 ·obtain rfl:k=n:=by omega
  exact CJ B v k cs vs vb vc w hO hm hvl nG hvs hB
theorem Pp (s:dX) (A:Option Addr) (n c:Nat) (xs:List dX) (w:World) (hx:mR w A n c xs):
  Calls prog 58 #[Qq A n c,ov s] w λe w'=>∃r:Int,e=.returned r/\(r=0->∀y∈xs,y.st≠s.st)/\Below w w w':=by
 have dV:=dH w (.cells (oc s).toArray 32);have hB:=Blk.new w 32 (oc s).toArray;have hx1:=hx.below dV;have hn:=hx.len;have lg:=hx.max;have hle:=hx.le;obtain ⟨w1,hw1⟩:=dG (w.alloc (.cells (oc s).toArray 32));obtain ⟨B,uo⟩:=dG w.heap.size;rw [<-hw1] at hB dV hx1;rw [<-uo] at hB;have mK:=dL hB;have HW:=dL (dN (x:=s) hw1);have HX:=dL hx1;have HB:=dL dV;have rG:=dL uo;clear hw1 hx1 dV hB hx uo;unfold ov;cases hs1:(s.seq ==1);all_goals
  go_enter func58,ntmps58;go_upto_region 2 with (fail);rw [<-HW.o,<-rG.o];obtain ⟨q0,q1,q2,q3,q4,q5,q6,q7,q8,q9,qE⟩:=dx mK.o;go_wp2_with fail;clear q0 q1 q2 q3 q4 q5 q6 q7 q8 q9 qE;go_loopw [5,6,15] (λe l i wr=>∃(k:Nat) (ec:Int) (lt:Bool),k<=xs.length/\e=.int .i64 ec/\l=.bool lt/\i=.int .i64 k/\dK (Below w1 w1 wr)/\dK (∀j (hj:j < xs.length),j < k->xs[j].st≠s.st)) (λ_ _ i _=>xs.length - (intOf i).toNat)
  case atStart=>exact ⟨0,_,_,by omega,rfl,rfl,rfl,dL (aC _ _),dL (λj hj h=>by omega)⟩
  case round=>
   obtain ⟨k,ec,lt,hk,rfl,rfl,rfl,oT,wE⟩:=hrel;rcases aD k xs.length with hlt|hge
   ·obtain ⟨b,off,rfl,jW,c0,c1,c2,c3,c4,c5,c6,c7,c8,c9,jX,_⟩:=mR.at_ (HX.o.below oT.o) hlt
    have hki:(k:Int) < (n:Int):=by omega
    have vN:dK (xs[k].st≠s.st->∀j (hj:j < xs.length),j < k+1->xs[j].st≠s.st):=dL (λh j hj h1=>by
     rcases aD j k with h2|h2
     ·exact wE.o j hj h2
     ·obtain rfl:j=k:=by omega
      exact h)
    generalize xs[k]=x at*;have dY:=oT.o.alloc oT.o.size (.cells (oc x).toArray 32);have hq:=Blk.new wr 32 (oc x).toArray;have hs2:=(mK.o.below oT.o mK.o.lt).alloc (.cells (oc x).toArray 32);obtain ⟨w2,eV⟩:=dG (wr.alloc (.cells (oc x).toArray 32));obtain ⟨q,iC⟩:=dG wr.heap.size;rw [<-eV] at hq dY hs2;rw [<-iC] at hq;have Lt:=dL hq;have CQ:=dL hs2;have eA:=dL dY;have rH:=dL (dN (x:=x) eV);have HQ:=dL iC;have he:=iE x.st s.st;have HNo:dK (decide (x.st=s.st)=false->x.st≠s.st):=dL of_decide_eq_false;have acG:=dL (λw=>rN x.st s.st w);have acH:=dL (λw=>rN s.st x.st w);unfold sv at acG acH;obtain ⟨P,hP⟩:∃P,IntKind.i64.wrap (s.seq - 1)=P:=⟨_,rfl⟩;clear hq dY hs2 eV iC;go_upto_region 8 with (fail);rw [<-HQ.o,<-rH.o];clear c0 c1 c2 c3 c4 c5 c6 c7 c8 c9 jX;obtain ⟨a0,a1,a2,-⟩:=dx Lt.o;obtain ⟨q0,q1,q2,-⟩:=dx CQ.o;cases hst:decide (x.st=s.st) with
    |true=>
     rw [hst] at he;cases how:(x.st.2 ==s.st.2);all_goals
      go_wp2_with fail;go_ret;exact ⟨24,rfl,λh=>by omega,HB.o.trans (eA.o.mono HB.o.size)⟩
    |false=>
     rw [hst] at he;have hNx:=vN.o (HNo.o hst);have uA:=dL hNx;clear hNx hst HNo;cases how:(x.st.2 ==s.st.2) with
     |false=>
      go_wp2_with fail;exact ⟨⟨k+1,ec,lt,by omega,rfl,rfl,by go_num,eA,uA⟩,by simp [intOf];omega⟩
     |true=>
      cases yx:(x.seq ==s.seq) with
      |true=>
       go_wp2_with fail;go_ret;exact ⟨24,rfl,λh=>by omega,HB.o.trans (eA.o.mono HB.o.size)⟩
      |false=>
       cases hpv:(x.seq ==P) with
       |true=>
        cases lt with
        |true=>
         go_wp2_with fail;exact ⟨⟨k+1,0,true,by omega,rfl,rfl,by go_num,eA,uA⟩,by simp [intOf];omega⟩
        |false=>
         go_wp2_with fail;refine (acG.o _).mono ?_;rintro e w3 ⟨rfl,hb⟩;have eC:=dJ eA hb;clear hb a0 a1 a2 q0 q1 q2;go_wp2_with fail;exact ⟨⟨k+1,0,_,by omega,rfl,rfl,by go_num,eC,uA⟩,by simp [intOf];omega⟩
       |false=>
        cases hgt:decide (x.seq > s.seq) with
        |false=>
         go_wp2_with fail;exact ⟨⟨k+1,ec,lt,by omega,rfl,rfl,by go_num,eA,uA⟩,by simp [intOf];omega⟩
        |true=>
         cases lt with
         |true=>
          go_wp2_with fail;exact ⟨⟨k+1,ec,true,by omega,rfl,rfl,by go_num,eA,uA⟩,by simp [intOf];omega⟩
         |false=>
          go_wp2_with fail;refine (acH.o _).mono ?_;rintro e w3 ⟨rfl,hb⟩;have eC:=dJ eA hb;clear hb a0 a1 a2 q0 q1 q2;go_wp2_with fail;exact ⟨⟨k+1,ec,_,by omega,rfl,rfl,by go_num,eC,uA⟩,by simp [intOf];omega⟩
   ·have hkn:¬ (k:Int) < (n:Int):=by omega
    have acI:dK (∀y∈xs,y.st≠s.st):=dL (λy hy=>by
     obtain ⟨j,hj,rfl⟩:=List.getElem_of_mem hy;exact wE.o j hj (by omega))
    have To:=dL (HB.o.trans (oT.o.mono HB.o.size));clear oT wE;by_cases hec:ec=0
    ·subst hec
     cases lt with
     |true=>
      go_wp2_with fail;go_ret;exact ⟨20,rfl,λh=>by omega,To.o⟩
     |false=>
      go_wp2_with fail;go_ret;exact ⟨0,rfl,λ_=>acI.o,To.o⟩
    ·have ME:(ec ==0)=false:=by rw [beq_eq_false_iff_ne];exact hec
     go_wp2_with fail;go_ret;exact ⟨ec,rfl,λ_=>acI.o,To.o⟩
end
end Go.Proofs.YtgdaahffmcfhpaaGreatDoor
