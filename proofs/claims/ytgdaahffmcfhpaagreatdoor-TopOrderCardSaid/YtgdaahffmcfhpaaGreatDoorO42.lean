/- Lemmas on the way: VAw Kp Ca Cb Cc Cd Tr. -/
import Derived.Test.YtgdaahffmcfhpaaGreatDoorO38
import Derived.Test.YtgdaahffmcfhpaaGreatDoorO40
import Derived.Test.YtgdaahffmcfhpaaGreatDoorO41
set_option maxRecDepth 100000
set_option maxHeartbeats 8000000
namespace Go.Proofs.YtgdaahffmcfhpaaGreatDoor
open aA
open Tryz
section
open Go.RowKit
attribute [local go_sem] dR dO dS dP
structure Live (w1 w:World) (p m:Nat) (v:Value) (r:Int) (L:List dX):Prop where
 mov:Us w w1 p m v r L
 below:Below w1 w1 w
 short:kK L
variable {v:Value} {r:Int} {L:List dX}
theorem Live.then_{w1 w w':World} {p m:Nat} (h:Live w1 w p m v r L) (hb:Below w w w'):Live w1 w' p m v r L:=
 ⟨h.mov.below hb,h.below.trans (hb.mono h.below.size),h.short⟩
theorem Live.size {w1 w:World} {p m:Nat} {v:Value} {r:Int} {L:List dX} (h:Live w1 w p m v r L):w1.heap.size<=w.heap.size:=h.below.size
theorem Live.p_lt{w1 w:World} {p m:Nat} (h:Live w1 w p m v r L):p < w.heap.size:=h.mov.s3.stt.blk.lt
theorem Live.m_lt{w1 w:World} {p m:Nat} (h:Live w1 w p m v r L):m < w.heap.size:=h.mov.s3.stt.map.lt
theorem Live.v_lt{w1 w:World} {p m:Nat} (h:Live w1 w p m v r L):∀g,v.ownBlock=some g->w1.heap.size<=g/\g < w.heap.size:=λg hg=>dQ.ge h.mov.s3.log g hg
theorem Am {x:dX} (h:kK L) (hx:Ir x):kK (lI L x):=by
 unfold lI;split
 ·unfold qJ
  intro y hy;rcases aq.1 hy with hy|hy
  ·exact h y (cS hy)
  ·rcases aQ.1 hy with rfl|hy
   ·exact hx
   ·exact h y (cH hy)
 ·exact h
def PB (r:Int) (L:List dX) (x:dX):Int:=if iT L x=0 then (L.length:Int) - (oy L x.st:Int) else r
theorem PC (w:World):Calls prog 5 #[] w λe w'=>e=.returned (.pointer (some ⟨w.heap.size+1,0,none⟩))/\Live w w' (w.heap.size+1) w (.slice none 0 0) 0 []:=by
 refine (O3 w).mono ?_;rintro e w' ⟨rfl,hs,hb,hz⟩;refine ⟨rfl,⟨⟨⟨hs,?_,?_,?_⟩,List.Pairwise.nil,by simp,by omega,aB _⟩,hb,λx hx=>by cases hx⟩⟩
 ·exact dQ.nil_ _ _ _
 ·intro h;cases h
 ·intro h;cases h
theorem EV (x:dX) (hx:Ir x) (p m:Nat) (v:Value) (r:Int) (L:List dX) (w1 w:World) (h:Live w1 w p m v r L):
  Calls prog 9 #[Qp p,ov x] w λe w'=>∃v',e=.returned (.int .i64 (iT L x))/\Live w1 w' p m v' (PB r L x) (lI L x)/\fc w w' p m v/\(∀g,v'.ownBlock=some g->v.ownBlock=some g\/w.heap.size<=g):=by
 refine (Ad x w1 p m v r L w h.mov h.size).mono ?_;rintro e w' ⟨v',r',rfl,hm,hk,hg,h0,h1⟩;have hr:r'=PB r L x:=by
  unfold PB;by_cases hc:iT L x=0
  ·rw [if_pos hc];exact h0 hc
  ·rw [if_neg hc];exact h1 hc
 subst hr;refine ⟨v',rfl,⟨hm,h.below.trans ?_,Am h.short hx⟩,hk,hg⟩;exact hk.toBelow h.size h.mov.p_ge h.mov.m_ge (λg hg=>(h.v_lt g hg).1)
theorem uY (h:kK L):Short (fL L):=by
 have:∀(L:List dX) (xs:List Nd),kK L->Short xs->Short (L.foldl uI xs):=by
  intro L;induction L with
  |nil=>exact λxs _ h=>h
  |cons x L ih=>exact λxs hl hs=>ih _ (λy hy=>hl y (List.mem_cons_of_mem _ hy)) (Ki hs (hl x List.mem_cons_self))
 exact this L [] h (λx hx=>by cases hx)
theorem xm{p m:Nat} {w1 w:World} (h:Live w1 w p m v r L):Calls prog 10 #[Qp p] w (lT w (fL L)):=by
 have hl:=h.mov.len;have hf:=pW L;refine (ES p m v r (i6 L) w h.mov.s3.stt (by omega)).mono ?_;rintro e w' ⟨v2,s,rfl,hp,hs,ho,hb⟩;obtain rfl:=uX hp hs;exact lT.own ho (uY h.short) hb
theorem PD{p m:Nat} {w1 w:World} (h:Live w1 w p m v r L):Calls prog 23 #[Qp p] w λe w'=>∃A c,e=.returned (.slice A L.length c)/\mR w' A L.length c L/\Below w w w':=by
 refine (WM w1 p m v r L w h.mov).mono ?_;rintro e w' ⟨v',rfl,hr⟩;obtain ⟨A,c,rfl,ho⟩:=gU.ops hr.own h.short;exact ⟨A,c,rfl,ho,hr.below⟩
end
section
open Go.RowKit
structure Z2 (w:World) (p m:Nat) (v:Value) (r:Int) (L:List dX):Prop where
 mov:Us w 0 p m v r L
 short:kK L
def MS (p m:Nat) (v:Value) (i:Nat):Prop:=i=p\/i=m\/v.ownBlock=some i
theorem Z2.kp {S:BS} {w w':World} {p m:Nat} {v:Value} {r:Int} {L:List dX} (h:Z2 w p m v r L) (k:dm S w w') (hn:∀i,MS p m v i->¬ S i):Z2 w' p m v r L:=
 ⟨⟨⟨⟨h.mov.s3.stt.blk.kp k (hn p (.inl rfl)),h.mov.s3.stt.map.heap (k.block m h.mov.s3.stt.map.lt (hn m (.inr (.inl rfl))))⟩,dQ.kp h.mov.s3.log k (λg hg=>hn g (.inr (.inr hg))),h.mov.s3.nep,h.mov.s3.nem⟩,h.mov.sorted,h.mov.len,h.mov.p_ge,h.mov.m_ge⟩,h.short⟩
variable {w:World} {L:List dX}
theorem Z2.bnd {p m:Nat} {v:Value} {r:Int} (h:Z2 w p m v r L):G6 (MS p m v) w:=λi hi=>by
 rcases hi with rfl|rfl|hi
 ·exact h.mov.s3.stt.blk.lt
 ·exact h.mov.s3.stt.map.lt
 ·exact (dQ.ge h.mov.s3.log i hi).2
def Gp (w:World) (F:BS) (p:Nat) (L:List dX):Prop:=∃m v r,Z2 w p m v r L/\F=MS p m v
theorem Gp.kp {S F:BS} {w w':World} {p:Nat} {L:List dX} (h:Gp w F p L) (k:dm S w w') (hn:iS F S):Gp w' F p L:=by
 obtain ⟨m,v,r,hi,rfl⟩:=h;exact ⟨m,v,r,hi.kp k hn,rfl⟩
theorem Gp.bnd {F:BS} {w:World} {p:Nat} {L:List dX} (h:Gp w F p L):G6 F w:=by
 obtain ⟨m,v,r,hi,rfl⟩:=h;exact hi.bnd
theorem Wk (w:World):Calls prog 5 #[] w λe w'=>∃F p,e=.returned (.pointer (some ⟨p,0,none⟩))/\Gp w' F p []/\(∀i,F i->w.heap.size<=i)/\Below w w w':=by
 refine (O3 w).mono ?_;rintro e w' ⟨rfl,hs,hb,hz⟩;refine ⟨_,_,rfl,⟨w.heap.size,.slice none 0 0,0,⟨⟨⟨hs,dQ.nil_ _ _ _,?_,?_⟩,List.Pairwise.nil,by simp,aS _,aS _⟩,λx hx=>by cases hx⟩,rfl⟩,λi hi=>?_,hb⟩
 ·intro h;cases h
 ·intro h;cases h
 ·rcases hi with rfl|rfl|hi
  ·omega
  ·exact aB _
  ·cases hi
theorem An (x:dX) (hx:Ir x) (p:Nat) (L:List dX) (F:BS) (w:World) (h:Gp w F p L):
  Calls prog 9 #[Qp p,ov x] w λe w'=>∃F',e=.returned (.int .i64 (iT L x))/\Gp w' F' p (lI L x)/\iP F F' w w':=by
 obtain ⟨m,v,r,hi,rfl⟩:=h;refine (Ad x 0 p m v r L w hi.mov (aS _)).mono ?_;rintro e w' ⟨v',r',rfl,hm,hk,hg,h0,h1⟩;refine ⟨_,rfl,⟨m,v',r',⟨hm,Am hi.short hx⟩,rfl⟩,⟨hk.os,hk.tape,hk.output,hk.size,λi hi hn=>hk.block i hi (λe=>hn (.inl e)) (λe=>hn (.inr (.inl e))) (λe=>hn (.inr (.inr e.symm)))⟩,λi hi=>?_⟩;rcases hi with hi|hi|hi
 ·exact .inl (.inl hi)
 ·exact .inl (.inr (.inl hi))
 ·rcases hg i hi with h2|h2
  ·exact .inl (.inr (.inr h2))
  ·exact .inr h2
theorem EW{p:Nat} {F:BS} (h:Gp w F p L):Calls prog 10 #[Qp p] w (lT w (fL L)):=by
 obtain ⟨m,v,r,hi,rfl⟩:=h;have hl:=hi.mov.len;have hf:=pW L;refine (ES p m v r (i6 L) w hi.mov.s3.stt (by omega)).mono ?_;rintro e w' ⟨v2,s,rfl,hp,hs,ho,hb⟩;obtain rfl:=uX hp hs;exact lT.own ho (uY hi.short) hb
def mX:List UInt8:=Pt.manL [120]
def kX:List UInt8:=Pt.keyL [120]
def ez:dX:=⟨(1,0),1,1,(1,0),false,(0,0),[97],mX⟩
def R7:Nd:=⟨(1,0),false,(0,0),[97],mX⟩
def JE:It:=⟨[97],(1,0),false,mX⟩
theorem xo:kX.length=32:=Pt.keyL_len _
theorem Wl:Pt.cutL [120]=[[120]]:=by decide
theorem JF:Pt.keysL mX=([kX],1,0):=by
 have:=Pt.man_keys (d:=[120]) (by simp) (by simp);rw [Wl] at this;exact this
theorem aaP:mX=Pt.Cd.numL 1++kX:=by
 show Pt.manL [120]=_;unfold Pt.manL;rw [Wl];simp [kX]
theorem mO:33<=mX.length/\mX.length<=41:=by
 rw [aaP,aP,xo];have:=Pt.Cd.numL_len 1;omega
theorem Uy:mX≠[]:=λh=>by have h1:=mO.1;rw [h] at h1;exact absurd h1 (by decide)
theorem aaQ:Pt.joinJ ([kX],1,0) [[120]]=([120],0):=by
 have hlen:([[120]]:List (List UInt8)).length=[kX].length:=by simp only [aY,bE]
 have:=Pt.joinJ_ok (n:=1) (l:=[[120]]) (ks:=[kX]) hlen ?_
 ·exact this
 intro i hi hi' hlt;obtain rfl:i=0:=by simp at hi;omega
 refine ⟨by simp only [aJ,aY,bE];omega,?_⟩;simp only [aJ];unfold kX
 with_reducible rfl
theorem okX:FQ ez:=⟨⟨by unfold oS;decide,by unfold oS;decide⟩,by unfold oS;decide,by unfold oS;decide,⟨by unfold oS;decide,by unfold oS;decide⟩,⟨by unfold oS;decide,by unfold oS;decide⟩,by decide,by have:=mO;show mX.length<=1000;omega⟩
theorem EX:Ir ez:=⟨by decide,by have:=mO;show mX.length<=_;omega⟩
theorem aaR:lI [] ez=[ez]:=by
 have h:iT [] ez=0:=by unfold iT;rfl
 unfold lI;rw [if_pos h];rfl
theorem Uz:fL [ez]=[R7]:=by unfold ez R7;generalize mX=m;rfl
theorem PE:rightN [97]=true:=by decide
theorem Gq:ja []=some []:=by
 have h:rU []=some []:=by rfl
 unfold ja;rw [h,bI,(jA []).1.eq_nil]
theorem V0:ja [R7]=some [JE]:=by
 have h:rU [R7]=some [JE]:=by unfold R7 JE;generalize mX=m;rfl
 unfold ja;rw [h,bI,(jA [JE]).1.eq_singleton]
theorem EY:(gy ez).length<=999:=by
 unfold gy GU;have h1:=kf ez.st;have h2:=kf ez.node;have h3:=kf ez.par;have h4:=eN ez.seq;have h5:=eN ez.kind;have h6:=eN (zN ez.dir);have h7:=gC ez.nm;have h8:=gC ez.mf;have h9:ez.nm.length=1:=rfl;have h10:ez.mf.length<=41:=mO.2;simp only [aP,bE];omega
theorem rcX:sG ez=0:=by
 have h1:rightS ez.st=true:=by decide
 have h2:seqB ez=false:=by decide
 have h3:C0 ez=false:=by decide
 have h4:shapedB ez=true:=by
  have hm:decide (mX.length<=600)=true:=by have:=mO;simp;omega
  unfold shapedB ez xS;generalize mX=m at hm ⊢;simp [hm];decide
 unfold sG;rw [h1,h2,h3,h4];rfl
end
section
open Go.RowKit
structure gE (w:World) (D who rb rc o p s pb kb nm:Nat) (FL FM:BS) (L1:List dX) (P1:List (List UInt8)) (L2:List dX) (u:Nat) (fs:Fm.Files):Prop where
 blk:Blk w D 158 #[.int .i64 (who:Nat),Qs rb 1 rc,Qp o,Qp p,Qp s,(),.map (some nm)]
 rlt:rb < w.heap.size
 r0:w.cell? rb=yh
 r1:w.cell? (Qc rb 1)=some (.string (bs [46]))
 log:mA w FL o L1 P1
 mov:Gp w FM p L2
 sto:Pt.StI w s pb kb 1048576 u fs
 nD:D≠rb/\¬ FL D/\¬ FM D/\¬ Pt.SS s pb kb D
 nR:¬ FL rb/\¬ FM rb/\¬ Pt.SS s pb kb rb
 lm:iS FL FM
 ls:iS FL (Pt.SS s pb kb)
 ms:iS FM (Pt.SS s pb kb)
def R8 (D rb s pb kb:Nat) (FL FM:BS) (i:Nat):Prop:=i=D\/i=rb\/FL i\/FM i\/Pt.SS s pb kb i
section
variable {w w':World} {D who rb rc o p s pb kb nm u u':Nat} {FL FM Vj YS:BS} {L1 L2 Ub L2':List dX} {P1 Uc:List (List UInt8)} {fs fs':Fm.Files}
theorem gE.kp {S:BS} (h:gE w D who rb rc o p s pb kb nm FL FM L1 P1 L2 u fs) (k:dm S w w') (hn:∀i,R8 D rb s pb kb FL FM i->¬ S i):gE w' D who rb rc o p s pb kb nm FL FM L1 P1 L2 u fs:=
 ⟨h.blk.kp k (hn D (.inl rfl)),aN h.rlt k.size,(aM (a:=⟨rb,0,none⟩) (k.block rb h.rlt (hn rb (.inr (.inl rfl))))).trans h.r0,(aM (a:=⟨rb,1,none⟩) (k.block rb h.rlt (hn rb (.inr (.inl rfl))))).trans h.r1,
  h.log.kp k (λi hi=>hn i (.inr (.inr (.inl hi)))),h.mov.kp k (λi hi=>hn i (.inr (.inr (.inr (.inl hi))))),h.sto.kp k (λi hi=>hn i (.inr (.inr (.inr (.inr hi))))),h.nD,h.nR,h.lm,h.ls,h.ms⟩
theorem gE.later (h:gE w D who rb rc o p s pb kb nm FL FM L1 P1 L2 u fs) (hb:Below w w w'):gE w' D who rb rc o p s pb kb nm FL FM L1 P1 L2 u fs:=h.kp (eO (S:=λ_=>False) hb) (λ_ _ h=>h)
theorem gE.bnd (h:gE w D who rb rc o p s pb kb nm FL FM L1 P1 L2 u fs):G6 (R8 D rb s pb kb FL FM) w:=λi hi=>by
 rcases hi with rfl|rfl|hi|hi|hi
 ·exact h.blk.lt
 ·exact h.rlt
 ·exact h.log.bnd i hi
 ·exact h.mov.bnd i hi
 ·exact h.sto.bnd i hi
theorem gE.stepL (h:gE w D who rb rc o p s pb kb nm FL FM L1 P1 L2 u fs) (hl:mA w' Vj o Ub Uc) (st:iP FL Vj w w'):
  gE w' D who rb rc o p s pb kb nm Vj FM Ub Uc L2 u fs/\iP (R8 D rb s pb kb FL FM) (R8 D rb s pb kb Vj FM) w w':=by
 have hD:=h.blk.lt;have hR:=h.rlt;have hM:=h.mov.bnd;have hS:=h.sto.bnd;have g:∀i,i < w.heap.size->¬ FL i->¬ Vj i:=λi hi hn hF=>by
  rcases st.gro i hF with h1|h1
  ·exact hn h1
  ·omega
 refine ⟨⟨h.blk.kp st.keeps h.nD.2.1,aN h.rlt st.size,(aM (a:=⟨rb,0,none⟩) (st.keeps.block rb h.rlt h.nR.1)).trans h.r0,(aM (a:=⟨rb,1,none⟩) (st.keeps.block rb h.rlt h.nR.1)).trans h.r1,
  hl,h.mov.kp st.keeps h.lm.symm,h.sto.kp st.keeps (λi hi hF=>h.ls i hF hi),⟨h.nD.1,g D hD h.nD.2.1,h.nD.2.2⟩,⟨g rb hR h.nR.1,h.nR.2⟩,h.lm.gro st.gro hM,h.ls.gro st.gro hS,h.ms⟩,⟨nP st.keeps (λi _ hi=>.inr (.inr (.inl hi))),?_⟩⟩
 rintro i (h1|h1|h1|h1)
 ·exact .inl (.inl h1)
 ·exact .inl (.inr (.inl h1))
 ·rcases st.gro i h1 with h2|h2
  ·exact .inl (.inr (.inr (.inl h2)))
  ·exact .inr h2
 ·exact .inl (.inr (.inr (.inr h1)))
theorem gE.stepM (h:gE w D who rb rc o p s pb kb nm FL FM L1 P1 L2 u fs) (hm:Gp w' YS p L2') (st:iP FM YS w w'):
  gE w' D who rb rc o p s pb kb nm FL YS L1 P1 L2' u fs/\iP (R8 D rb s pb kb FL FM) (R8 D rb s pb kb FL YS) w w':=by
 have hD:=h.blk.lt;have hR:=h.rlt;have hL:=h.log.bnd;have hS:=h.sto.bnd;have g:∀i,i < w.heap.size->¬ FM i->¬ YS i:=λi hi hn hF=>by
  rcases st.gro i hF with h1|h1
  ·exact hn h1
  ·omega
 refine ⟨⟨h.blk.kp st.keeps h.nD.2.2.1,aN h.rlt st.size,(aM (a:=⟨rb,0,none⟩) (st.keeps.block rb h.rlt h.nR.2.1)).trans h.r0,(aM (a:=⟨rb,1,none⟩) (st.keeps.block rb h.rlt h.nR.2.1)).trans h.r1,
  h.log.kp st.keeps h.lm,hm,h.sto.kp st.keeps (λi hi hF=>h.ms i hF hi),⟨h.nD.1,h.nD.2.1,g D hD h.nD.2.2.1,h.nD.2.2.2⟩,⟨h.nR.1,g rb hR h.nR.2.1,h.nR.2.2⟩,(h.lm.symm.gro st.gro hL).symm,h.ls,h.ms.gro st.gro hS⟩,⟨nP st.keeps (λi _ hi=>.inr (.inr (.inr (.inl hi)))),?_⟩⟩
 rintro i (h1|h1|h1|h1|h1)
 ·exact .inl (.inl h1)
 ·exact .inl (.inr (.inl h1))
 ·exact .inl (.inr (.inr (.inl h1)))
 ·rcases st.gro i h1 with h2|h2
  ·exact .inl (.inr (.inr (.inr (.inl h2))))
  ·exact .inr h2
 ·exact .inl (.inr (.inr (.inr (.inr h1))))
theorem gE.stepS (h:gE w D who rb rc o p s pb kb nm FL FM L1 P1 L2 u fs) (hs:Pt.StI w' s pb kb 1048576 u' fs') (k:dm (Pt.SS s pb kb) w w'):
  gE w' D who rb rc o p s pb kb nm FL FM L1 P1 L2 u' fs'/\iP (R8 D rb s pb kb FL FM) (R8 D rb s pb kb FL FM) w w':=
 ⟨⟨h.blk.kp k h.nD.2.2.2,aN h.rlt k.size,(aM (a:=⟨rb,0,none⟩) (k.block rb h.rlt h.nR.2.2)).trans h.r0,(aM (a:=⟨rb,1,none⟩) (k.block rb h.rlt h.nR.2.2)).trans h.r1,
  h.log.kp k h.ls,h.mov.kp k h.ms,hs,h.nD,h.nR,h.lm,h.ls,h.ms⟩,⟨nP k (λ_ _ hi=>.inr (.inr (.inr (.inr hi)))),Na.refl _ _⟩⟩
end
def stU (P:List (List UInt8)):Nat:=if P=[] then 0 else 1
def zQ (P:List (List UInt8)):Fm.Files:=if P=[] then [] else [(kX,[120])]
def fE (w:World) (F:BS) (D who:Nat) (L:List dX) (P:List (List UInt8)):Prop:=
 ∃rb rc o p s pb kb nm FL FM,gE w D who rb rc o p s pb kb nm FL FM L P L (stU P) (zQ P)/\F=R8 D rb s pb kb FL FM
theorem fE.kp {S F:BS} {w w':World} {D who:Nat} {L:List dX} {P:List (List UInt8)} (h:fE w F D who L P) (k:dm S w w') (hn:iS F S):fE w' F D who L P:=by
 obtain ⟨rb,rc,o,p,s,pb,kb,nm,FL,FM,hi,rfl⟩:=h;exact ⟨rb,rc,o,p,s,pb,kb,nm,FL,FM,hi.kp k hn,rfl⟩
theorem fE.bnd {F:BS} {w:World} {D who:Nat} {L:List dX} {P:List (List UInt8)} (h:fE w F D who L P):G6 F w:=by
 obtain ⟨rb,rc,o,p,s,pb,kb,nm,FL,FM,hi,rfl⟩:=h;exact hi.bnd
theorem fE.later {F:BS} {w w':World} {D who:Nat} {L:List dX} {P:List (List UInt8)} (h:fE w F D who L P) (hb:Below w w w'):fE w' F D who L P:=h.kp (eO (S:=λ_=>False) hb) (nt F)
inductive PF:List dX->List (List UInt8)->List Int->List (List UInt8)->List It->Prop
 |s0:PF [] [] [] [] []
 |s1:PF [ez] [[120]] [1] [] [JE]
 |s2:PF [ez] [] [1] [kX] [JE]
end
section
open Go.RowKit
attribute [local go_sem] dR dO dS dP
variable {L:List dX} {P ks P1:List (List UInt8)} {Vy:List It}
theorem PF.view {vs:List Int} (h:PF L P vs ks Vy):ja (fL L)=some Vy/\(fL L).length<=80/\∀x∈fL L,rightN x.nm=true:=by
 have h1:ja (fL [])=some []/\(fL []).length<=80/\∀x∈fL [],rightN x.nm=true:=⟨Gq,by decide,λx hx=>by cases hx⟩;have h2:ja (fL [ez])=some [JE]/\(fL [ez]).length<=80/\∀x∈fL [ez],rightN x.nm=true:=by
  rw [Uz];exact ⟨V0,by simp,λx hx=>by rw [aW.1 hx];exact PE⟩
 cases h
 ·exact h1
 ·exact h2
 ·exact h2
variable {w:World} {F:BS} {who D B:Nat}
theorem sJ (h:fE w F D who L P) (hv:ja (fL L)=some Vy) (hl:(fL L).length<=80) (hr:∀x∈fL L,rightN x.nm=true):
  Calls prog 83 #[Qp D] w λe w'=>∃A c,e=.returned (.tuple #[.slice A Vy.length c,qn])/\yo w' A Vy.length c Vy/\Below w w w':=by
 obtain ⟨rb,rc,o,p,s,pb,kb,nm,FL,FM,hi,rfl⟩:=h;have HN:=dL (EW hi.mov);have c3:=hi.blk.cell 3;simp at c3;have HV:dK (∀A n c w',lu w' A n c (fL L)->Calls prog 13 #[.slice A n c] w' (Iw (fL L) w')):=dL (λA n c w' hx=>sC (fL L) A n c w' hx hl hr);have HE:=dL hv;clear hi hv hl hr;go_enter func83,ntmps83;go_wp2_with fail;refine HN.o.mono ?_;rintro e w1 ⟨A,c,rfl,hn,hb⟩;have Xb:=dL (HV.o A _ c w1 hn);have eR:=dL hb;clear hn hb HV HN;obtain ⟨n1,qX⟩:=dG ((fL L).length);rw [<-qX] at Xb ⊢;clear qX;go_wp2_with fail;refine Xb.o.mono ?_;rintro e w2 ⟨hb,⟨ys,A2,c2,hy,rfl,hx⟩| ⟨hy,rfl⟩⟩
 ·rw [HE.o] at hy
  cases hy;have HX:=dL hx;have eA:=dJ eR hb;obtain ⟨n2,hn2⟩:=dG Vy.length;rw [<-hn2] at HX ⊢;have HN2:=dL hn2;clear hx hb hn2;go_wp2_with fail;go_ret2;rw [<-HN2.o];exact ⟨_,_,rfl,HX.o,eA.o⟩
 ·rw [HE.o] at hy
  cases hy
theorem Wm (h:fE w F D who [] []):
  Calls prog 124 #[Qp D] w (dM w (.slice none 0 0)):=by
 have HA:=dL (sJ h Gq (by decide) (λx hx=>by cases hx));obtain ⟨rb,rc,o,p,s,pb,kb,nm,FL,FM,hi,rfl⟩:=h;have HI:=dL hi;clear hi;go_enter func124,ntmps124;go_wp2_with fail;refine HA.o.mono ?_;rintro e w1 ⟨A,c,rfl,hx,hb⟩;have hi1:=HI.o.later hb;have c1:=hi1.blk.cell 1;simp at c1;have HB:=dL hb;rw [bE];clear hi1 hx hb HA;go_wp2_with fail;refine (Wi A c _ _).mono ?_;rintro e w2 ⟨rfl,hb⟩;have eA:=dJ HB hb;clear hb c1;go_wp2_with fail;refine wp_loop_rounds 1 ?_;rw [rounds_succ];go_wp2_with fail;go_ret;exact ⟨rfl,eA.o⟩
theorem Wn (h:fE w F D who [ez] [[120]]):
  Calls prog 124 #[Qp D] w (dM w (.slice none 0 0)):=by
 have hv:=PF.view PF.s1;have HA:=dL (sJ h hv.1 hv.2.1 hv.2.2);obtain ⟨rb,rc,o,p,s,pb,kb,nm,FL,FM,hi,rfl⟩:=h;have HI:=dL hi;clear hi hv;go_enter func124,ntmps124;go_wp2_with fail;refine HA.o.mono ?_;rintro e w1 ⟨A,c,rfl,hx,hb⟩;have hi1:=HI.o.later hb;have c1:=hi1.blk.cell 1;simp at c1;have wE:=dL (P3 JE rfl Uy (by have:=mO;show mX.length<=_;omega) A _ c w1 hx rb 0 rc hi1.rlt hi1.r0 hi1.r1);have HB:=dL hb;rw [List.length_singleton] at wE ⊢;clear hi1 hx hb HA;go_wp2_with fail;refine wE.o.mono ?_;rintro e w2 ⟨g2,c2,rfl,Cy,hb⟩;obtain ⟨k0,k1,k2,k3,k4⟩:=EI Cy;have dY:=HB.o.trans (hb.mono HB.o.size);have hi2:=HI.o.later dY;have c4:=hi2.blk.cell 4;simp at c4;have HM:=dL (Pt.missing_any hi2.sto mX (by have:=mO;omega) (by rw [JF]) (by rw [JF];intro k' hk';rw [aW.1 hk'];unfold zQ;simp [Fm.get,Fm.place]));have eA:=dL dY;have k0':w2.cell? g2=mX:=k0;clear hi2 hb dY Cy k1 k2 k3 k4 c1 wE k0;go_wp2_with fail;refine wp_loop_rounds 2 ?_;rw [rounds_succ];go_wp2_with fail;refine HM.o.mono ?_;rintro e w3 ⟨rfl,hb⟩;have eC:=dJ eA hb;clear hb HM k0' c4;go_wp2_with fail;refine wp_loop_rounds 1 ?_;rw [rounds_succ];go_wp2_with fail;rw [rounds_succ];go_wp2_with fail;go_ret;exact ⟨rfl,eC.o⟩
theorem PG (h:fE w F D who [ez] []):
  Calls prog 124 #[Qp D] w λe w'=>∃g c,e=.returned (.slice (some ⟨g,0,none⟩) 1 c)/\dQ w' w 1 (.slice (some ⟨g,0,none⟩) 1 c) 1 [.string (bs kX)]/\Below w w w':=by
 have hv:=PF.view PF.s2;have HA:=dL (sJ h hv.1 hv.2.1 hv.2.2);obtain ⟨rb,rc,o,p,s,pb,kb,nm,FL,FM,hi,rfl⟩:=h;have HI:=dL hi;obtain ⟨j0,hj,hy0,hy1,hy2⟩:=info_parts Ik.info9s;have HJ:=dL hj;have z7:=dL hy0;have Cv:=dL hy1;have Cw:=dL hy2;clear hi hv hj hy0 hy1 hy2;go_enter func124,ntmps124;go_wp2_with fail;refine HA.o.mono ?_;rintro e w1 ⟨A,c,rfl,hx,hb⟩;have hi1:=HI.o.later hb;have c1:=hi1.blk.cell 1;simp at c1;have wE:=dL (P3 JE rfl Uy (by have:=mO;show mX.length<=_;omega) A _ c w1 hx rb 0 rc hi1.rlt hi1.r0 hi1.r1);have HB:=dL hb;rw [List.length_singleton] at wE ⊢;clear hi1 hx hb HA;go_wp2_with fail;refine wE.o.mono ?_;rintro e w2 ⟨g2,c2,rfl,Cy,hb⟩;obtain ⟨k0,k1,k2,k3,k4⟩:=EI Cy;have dY:=HB.o.trans (hb.mono HB.o.size);have hi2:=HI.o.later dY;have c4:=hi2.blk.cell 4;simp at c4;have HM:=dL (Pt.missing1 hi2.sto mX (by have:=mO;omega) kX 1 JF (by unfold zQ;simp [Fm.get,Fm.place]));have eA:=dL dY;have k0':w2.cell? g2=mX:=k0;clear hi2 hb dY Cy k1 k2 k3 k4 c1 wE k0;go_wp2_with fail;refine wp_loop_rounds 2 ?_;rw [rounds_succ];go_wp2_with fail;refine HM.o.mono ?_;rintro e w3 ⟨g3,c3,rfl,BB,hb⟩;obtain ⟨k0,k1,k2,k3,k4⟩:=EI BB;have eC:=dJ eA hb;clear hb HM k0' c4 BB k1 k2 k3 k4;go_wp2_with fail;refine wp_loop_rounds 2 ?_;rw [rounds_succ];go_wp2_with fail;refine (slices_Contains_string_empty none 0 _ _).mono ?_;rintro e w4 ⟨rfl,rfl⟩;go_wp2_with (at_builtin;refine de _ rfl (.tmp 49) (.tmp 51) 99 99 rfl 9 j0 (.string ⟨#[]⟩) 1 underlying99 HJ.o z7.o Cv.o rfl (by decide) rfl _ rfl 1 (by decide) [.string (bs kX)] (Src.one underlying99 (by simp [go_sem]) rfl) (by decide) (by rw [Cw.o];decide) ?_)
 intro cap w5 hown ef;have acw:=((aC _ _).alloc (aB _) _).trans (ef.mono (by simp));obtain ⟨G,hG⟩:=dG (w4.heap.size+1);rw [<-hG] at hown;have HO:=dL (dQ.mono (B':=w.heap.size) hown (by have:=eC.o.size;omega));have fk:=dJ eC acw;have HG:=dL hG;clear hown ef acw hG eC k0;rw [<-HG.o];go_wp2_with fail;rw [rounds_succ];go_wp2_with fail;rw [rounds_succ];go_wp2_with fail;go_ret;exact ⟨G,cap,rfl,HO.o,fk.o⟩
theorem gE.c2 {rb rc o p s pb kb nm u:Nat} {FL FM:BS} {L1 L2:List dX} {fs:Fm.Files} (h:gE w D who rb rc o p s pb kb nm FL FM L1 P1 L2 u fs):w.cell? (Qc D 2)=Qp o:=h.blk.cell 2
theorem JG {A:Option Addr} {c:Nat} (h:qx w (.slice A 1 c) [ez]):Calls prog 126 #[Qq A 1 c] w λe w'=>∃A' c',e=.returned (.slice A' 1 c')/\qw w' (.slice A' 1 c') [1]/\Below w w w':=by
 rcases h with ⟨h,_⟩| ⟨b,off,c1,x,hx,hv,hlt,hc,h1,h2⟩
 ·cases h
 ·cases hx
  cases hv;have hs:mR w (some ⟨b,off,none⟩) 1 c [ez]:=⟨rfl,h1,h2,λi hi=>by
   obtain rfl:i=0:=by simp at hi;omega
   refine ⟨b,off,oc ez,rfl,hlt,rfl,⟨rfl,EX⟩,λj u hu=>?_⟩;have:=hc j u hu;simpa using this⟩
  refine (Sm ez rfl (some ⟨b,off,none⟩) 1 c w hs).mono ?_;rintro e w' ⟨A',c',rfl,hs',hb⟩;exact ⟨A',c',rfl,adX hs',hb⟩
theorem xq {v:Value} {x:dX} (h:gU w B v [x]):∃A c,v=.slice A 1 c/\qx w (.slice A 1 c) [x]:=by
 have hl:=gU.ls h (λe=>by cases e) (by simp);obtain ⟨A,c,rfl⟩:=hl.form;exact ⟨A,c,rfl,hl⟩
theorem Wo (h:fE w F D who [] []):Calls prog 77 #[Qp D] w (dM w (.string (bs (eG [] [])))):=by
 have HL:=dL (Wm h);obtain ⟨rb,rc,o,p,s,pb,kb,nm,FL,FM,hi,rfl⟩:=h;have HI:=dL hi;clear hi;go_enter func77,ntmps77;go_wp2_with fail;refine HL.o.mono ?_;rintro e w2 ⟨rfl,hb⟩;have HK:dK (oI w2.drew (.slice none 0 0) []):=dL (.inl ⟨rfl,rfl⟩);have sr:=dL (HI.o.later hb);have qC:=dL (sr.o.later (aC _ w2).drew);have eA:=dL (hb.drew);clear hb HL;have hm0:min (0:Int) 16=0:=by decide
 go_wp2_with fail;go_region_held3 (λw'=>w'.cell? (Qc D 2)=Qp o)
  (with_reducible first|exact gE.c2 FX.o|exact gE.c2 uh.o|exact gE.c2 rC.o|exact gE.c2 qC.o|exact gE.c2 sr.o)
  (first
   |(go_at_call 127;refine (mI qC.o.log).mono ?_;rintro e w3 ⟨v',rfl,ho,hn,hb⟩;obtain rfl:=hn rfl;have H3:=dL hb;clear ho hn hb;have rC:=dL (qC.o.later H3.o))
   |(go_at_call 126;refine (Sj _).mono ?_;rintro e w4 ⟨rfl,hb⟩;have HV:dK (qw w4 (.slice none 0 0) []):=dL (.inl ⟨rfl,rfl⟩);have H4:=dJ H3 hb;clear hb;have uh:=dL (qC.o.later H4.o))
   |(go_at_call 125;refine (tY HV.o (HK.o.later H4.o) (by intro x hx;cases hx) (by intro x hx;cases hx)).mono ?_;rintro e w5 ⟨rfl,hb⟩;have H5:=dJ H4 hb;have FX:=dL (qC.o.later H5.o);clear hb))
 all_goals
  go_wp2_with fail;go_ret;exact ⟨rfl,eA.o.trans (H5.o.mono eA.o.size)⟩
theorem Wp (h:fE w F D who [ez] [[120]]):Calls prog 77 #[Qp D] w (dM w (.string (bs (eG [1] [])))):=by
 have HL:=dL (Wn h);obtain ⟨rb,rc,o,p,s,pb,kb,nm,FL,FM,hi,rfl⟩:=h;have HI:=dL hi;clear hi;go_enter func77,ntmps77;go_wp2_with fail;refine HL.o.mono ?_;rintro e w2 ⟨rfl,hb⟩;have HK:dK (oI w2.drew (.slice none 0 0) []):=dL (.inl ⟨rfl,rfl⟩);have sr:=dL (HI.o.later hb);have qC:=dL (sr.o.later (aC _ w2).drew);have eA:=dL (hb.drew);clear hb HL;have hm0:min (0:Int) 16=0:=by decide
 go_wp2_with fail;go_region_held3 (λw'=>w'.cell? (Qc D 2)=Qp o)
  (with_reducible first|exact gE.c2 FX.o|exact gE.c2 uh.o|exact gE.c2 rC.o|exact gE.c2 qC.o|exact gE.c2 sr.o)
  (first
   |(go_at_call 127;refine (mI qC.o.log).mono ?_;rintro e w3 ⟨v',rfl,ho,hn,hb⟩;obtain ⟨Ao,co,rfl,hlo⟩:=xq ho;have ZW:=dL hlo;have H3:=dL hb;clear ho hn hb hlo;have rC:=dL (qC.o.later H3.o))
   |(go_at_call 126;refine (JG ZW.o).mono ?_;rintro e w4 ⟨Av,cv,rfl,hvv,hb⟩;have HV:=dL hvv;have H4:=dJ H3 hb;clear hb hvv;have uh:=dL (qC.o.later H4.o))
   |(go_at_call 125;refine (tY HV.o (HK.o.later H4.o) (by intro x hx;rw [aW.1 hx];decide) (by intro x hx;cases hx)).mono ?_;rintro e w5 ⟨rfl,hb⟩;have H5:=dJ H4 hb;have FX:=dL (qC.o.later H5.o);clear hb))
 all_goals
  go_wp2_with fail;go_ret;exact ⟨rfl,eA.o.trans (H5.o.mono eA.o.size)⟩
theorem Wq (h:fE w F D who [ez] []):Calls prog 77 #[Qp D] w (dM w (.string (bs (eG [1] [kX])))):=by
 have HL:=dL (PG h);obtain ⟨rb,rc,o,p,s,pb,kb,nm,FL,FM,hi,rfl⟩:=h;have HI:=dL hi;clear hi;go_enter func77,ntmps77;go_wp2_with fail;refine HL.o.mono ?_;rintro e w2 ⟨g,c,rfl,ho,hb⟩;have hk0:=fm.ls (xs:=[kX]) ho (λe=>by cases e) (by simp);have HK:dK (oI w2.drew (.slice (some g) 1 c) [kX]):=dL (hk0.later (aC _ w2).drew);obtain ⟨g',c',e',-,-,-,hc1,hc2⟩:=jQ ho rfl;cases e';have hcI:(1:Int)<=(c:Int):=by omega
 clear ho hk0;have sr:=dL (HI.o.later hb);have qC:=dL (sr.o.later (aC _ w2).drew);have eA:=dL (hb.drew);clear hb HL;have hm0:min (1:Int) 16=1:=by decide
 go_wp2_with fail;go_region_held3 (λw'=>w'.cell? (Qc D 2)=Qp o)
  (with_reducible first|exact gE.c2 FX.o|exact gE.c2 uh.o|exact gE.c2 rC.o|exact gE.c2 qC.o|exact gE.c2 sr.o)
  (first
   |(go_at_call 127;refine (mI qC.o.log).mono ?_;rintro e w3 ⟨v',rfl,ho,hn,hb⟩;obtain ⟨Ao,co,rfl,hlo⟩:=xq ho;have ZW:=dL hlo;have H3:=dL hb;clear ho hn hb hlo;have rC:=dL (qC.o.later H3.o))
   |(go_at_call 126;refine (JG ZW.o).mono ?_;rintro e w4 ⟨Av,cv,rfl,hvv,hb⟩;have HV:=dL hvv;have H4:=dJ H3 hb;clear hb hvv;have uh:=dL (qC.o.later H4.o))
   |(go_at_call 125;refine (tY HV.o (HK.o.later H4.o) (by intro x hx;rw [aW.1 hx];decide) (by intro x hx;rw [aW.1 hx];exact xo)).mono ?_;rintro e w5 ⟨rfl,hb⟩;have H5:=dJ H4 hb;have FX:=dL (qC.o.later H5.o);clear hb))
 all_goals
  go_wp2_with fail;go_ret;exact ⟨rfl,eA.o.trans (H5.o.mono eA.o.size)⟩
end
namespace Tr
open Go.RowKit
def xu (xs:List Nd):Prop:=(xs.map Nd.id).Nodup
variable {xs l:List Nd} {z y:Nd}
theorem xu.find (h:xu xs) (hz:z∈xs):eX z.id xs=z/\er z.id xs=true:=by
 obtain ⟨j,hj,rfl⟩:=bR.1 hz;have h1:fS (eZ xs[j].id) xs=j:=sx hj (by simp [eZ]) (λi hi hlt=>by
  unfold eZ;refine decide_eq_false (λe=>?_);have:=dF.1 h i j (by simpa using hi) (by simpa using hj) hlt;rw [List.getElem_map,List.getElem_map] at this;exact this e)
 exact Ic hj h1
theorem xw (xs:List Nd) (k:Nat) (z:Nd) (hk:k < xs.length) (hz:z.id=xs[k].id):(xs.set k z).map Nd.id=xs.map Nd.id:=by
 apply List.ext_getElem?;intro i;rw [cL,cL,List.getElem?_set];by_cases h:k=i
 ·subst h
  simp [hk,hz]
 ·simp [h]
theorem doN_cases (xs:List Nd) (x:dX):
  (uI xs x=xs)\/(∃y,y.id=x.node/\x.kind=1/\x.node∉xs.map Nd.id/\y= ⟨x.node,x.dir,if gM x.par xs then x.par else (0,1),x.nm,x.mf⟩/\uI xs x=gI xs y)\/
  (∃k,∃hk:k < xs.length,xs[k].id=x.node/\x.kind≠1/\(jb xs x xs[k]).2=true/\uI xs x=xs.set k (jb xs x xs[k]).1):=by
 rcases gZ (eZ x.node) xs with ⟨k,hk,iU,hp⟩| ⟨iU,hall⟩
 ·rw [Bg hk iU]
  by_cases h1:x.kind=1
  ·exact .inl (by rw [if_pos h1])
  ·rw [if_neg h1]
   by_cases h2:(jb xs x xs[k]).2=true
   ·exact .inr (.inr ⟨k,hk,of_decide_eq_true hp,h1,h2,by rw [if_pos h2]⟩)
   ·exact .inl (by rw [if_neg h2])
 ·rw [Bh iU]
  by_cases h1:x.kind=1
  ·refine .inr (.inl ⟨_,rfl,h1,λhm=>?_,rfl,by rw [if_pos h1]⟩)
   obtain ⟨z,hz,e⟩:=aU.1 hm;have:=hall z hz;unfold eZ at this;rw [decide_eq_true e] at this;cases this
  ·exact .inl (by rw [if_neg h1])
def Rt (s:St):Prop:=s=(0,0)\/s=(0,1)
def Reach (xs:List Nd):Nat->St->Prop
 |0,s=>Rt s
 |k+1,s=>er s xs=true/\Reach xs k (eX s xs).par
structure Tree (xs:List Nd):Prop where
 sorted:xs.Pairwise λa b=>di a.id b.id=true
 own:∀x∈xs,rightS x.id=true
 par:∀x∈xs,Rt x.par\/(er x.par xs=true/\(eX x.par xs).dir=true)
 reach:∀x∈xs,∃k,Reach xs k x.id
variable {s a b:St}
theorem Aq:di a b=true↔a.1 < b.1\/(a.1=b.1/\a.2 < b.2):=by
 unfold di;simp
theorem Ar (a:St):di a a=false:=by
 unfold di;simp
theorem EZ{c:St} (h:di a b=true) (k:di b c=true):di a c=true:=by
 rw [Aq] at*;omega
theorem Ea (h:di a b=false) (hne:b≠a):di b a=true:=by
 have h1:¬ (di a b=true):=by rw [h];decide
 rw [Aq] at*;have:¬ (b.1=a.1/\b.2=a.2):=λ⟨e1,e2⟩=>hne (Prod.ext e1 e2)
 omega
theorem Tree.uniq (h:Tree xs):xu xs:=by
 unfold xu;rw [List.Nodup,cV];exact h.sorted.imp fun {a b} hab e=>by rw [e,Ar] at hab;cases hab
theorem Tree.no_rt (h:Tree xs) (hs:Rt s):er s xs=false:=by
 cases hh:er s xs with
 |false=>rfl
 |true=>
  obtain ⟨h1,h2⟩:=vZ hh;have:=h.own _ h1;rw [h2] at this;unfold rightS at this;rcases hs with rfl|rfl <;> simp at this
theorem Reach.uniq {xs:List Nd} (h:Tree xs):∀{j k:Nat} {s:St},Reach xs j s->Reach xs k s->j=k
 |0,0,_,_,_=>rfl
 |0,k+1,s,h0,h1=>by have:=h.no_rt h0;rw [h1.1] at this;cases this
 |j+1,0,s,h0,h1=>by have:=h.no_rt h1;rw [h0.1] at this;cases this
 |j+1,k+1,s,h0,h1=>by rw [Reach.uniq h h0.2 h1.2]
theorem find?_grow{p:Nd->Bool} (hy:p y=false):(gI xs y).find? p=xs.find? p:=by
 have h:(List.take (rF xs y.id) xs++List.drop (rF xs y.id) xs).find? p=xs.find? p:=by rw [bV]
 rw [<-h];unfold gI;simp only [List.find?_append,List.find?_cons,hy]
theorem find?_set {p:Nd->Bool}:∀{xs:List Nd} {k:Nat} {z:Nd} (hk:k < xs.length),p xs[k]=false->p z=false->(xs.set k z).find? p=xs.find? p
 | [],k,_,hk,_,_=>by simp at hk
 |x :: xs,0,z,_,h1,h2=>by
  have h1:p x=false:=h1;simp [h1,h2]
 |x :: xs,k+1,z,hk,h1,h2=>by
  have:=find?_set (xs:=xs) (k:=k) (z:=z) (by simpa using hk) (by simpa using h1) h2;simp [List.find?_cons,this]
theorem Aw (h:s≠y.id):eX s (gI xs y)=eX s xs/\er s (gI xs y)=er s xs:=by
 unfold eX er;rw [find?_grow (by unfold eZ;exact decide_eq_false (λe=>h e.symm))];exact ⟨rfl,rfl⟩
theorem xy {k:Nat} (hk:k < xs.length) (hz:z.id=xs[k].id) (h:s≠z.id):eX s (xs.set k z)=eX s xs/\er s (xs.set k z)=er s xs:=by
 unfold eX er;rw [find?_set hk (by unfold eZ;exact decide_eq_false (λe=>h (by rw [hz,e]))) (by unfold eZ;exact decide_eq_false (λe=>h e.symm))];exact ⟨rfl,rfl⟩
theorem Reach.grow {xs:List Nd} {y:Nd} (hn:er y.id xs=false):∀{k:Nat} {s:St},Reach xs k s->Reach (gI xs y) k s
 |0,_,h=>h
 |k+1,s,h=>by
  have hne:s≠y.id:=λe=>by have:=h.1;rw [e,hn] at this;cases this
  obtain ⟨h1,h2⟩:=Aw (xs:=xs) hne;exact ⟨by rw [h2];exact h.1,by rw [h1];exact Reach.grow hn h.2⟩
theorem qy (h:z∈xs.take (rF xs s)):di s z.id=false:=by
 obtain ⟨j,hj,rfl⟩:=bR.1 h;rw [aR] at hj;rw [List.getElem_take];unfold rF at hj;cases hf:xs.findIdx? (λz=>di s z.id) with
 |none=>
  have:=bK.1 hf xs[j] (aa _);exact this
 |some k=>
  rw [hf] at hj;obtain ⟨hk,_,h3⟩:=au.1 hf;have:=h3 j (by simp at hj;omega);simpa using this
theorem Ws (h:xs.drop (rF xs s)=z :: l):di s z.id=true:=by
 unfold rF at h;cases hf:xs.findIdx? (λz=>di s z.id) with
 |none=>rw [hf] at h;simp at h
 |some k=>
  rw [hf] at h;obtain ⟨hk,h2,_⟩:=au.1 hf;simp only [bw] at h;rw [List.drop_eq_getElem_cons hk] at h;have:=(List.cons.inj h).1;rw [<-this];exact h2
theorem pG (h:xs.Pairwise λa b=>di a.id b.id=true) (hn:∀z∈xs,z.id≠y.id):(gI xs y).Pairwise λa b=>di a.id b.id=true:=by
 unfold gI;have hsp:(xs.take (rF xs y.id)++xs.drop (rF xs y.id)).Pairwise λa b=>di a.id b.id=true:=by rw [bV];exact h
 rw [List.pairwise_append] at hsp;obtain ⟨h1,h2,h3⟩:=hsp;rw [List.pairwise_append,cU];have Hy:∀a∈xs.take (rF xs y.id),di a.id y.id=true:=λa ha=>Ea (qy ha) (hn a (cS ha))
 have UK:∀b∈xs.drop (rF xs y.id),di y.id b.id=true:=λb hb=>by
  cases hd:xs.drop (rF xs y.id) with
  |nil=>rw [hd] at hb;cases hb
  |cons z l=>
   have hz:=Ws hd;rw [hd] at hb h2;rcases aQ.1 hb with rfl|hb
   ·exact hz
   ·exact EZ hz ((cU.1 h2).1 b hb)
 refine ⟨h1,⟨UK,h2⟩,λa ha b hb=>?_⟩;rcases aQ.1 hb with rfl|hb
 ·exact Hy a ha
 ·exact h3 a ha b hb
theorem mem_grow_cases (h:z∈gI xs y):z=y\/z∈xs:=by
 unfold gI at h;rcases aq.1 h with h|h
 ·exact .inr (cS h)
 ·rcases aQ.1 h with h|h
  ·exact .inl h
  ·exact .inr (cH h)
theorem LV (h:s∉xs.map Nd.id):er s xs=false:=by
 cases hh:er s xs with
 |false=>rfl
 |true=>
  obtain ⟨h1,h2⟩:=vZ hh;exact absurd (aU.2 ⟨_,h1,h2⟩) h
theorem Tree.reachOf (h:Tree xs) (hs:Rt s\/er s xs=true):∃k,Reach xs k s:=by
 rcases hs with hs|hs
 ·exact ⟨0,hs⟩
 ·obtain ⟨h1,h2⟩:=vZ hs
  obtain ⟨k,hk⟩:=h.reach _ h1;exact ⟨k,h2 ▸ hk⟩
theorem Tree.grow {xs:List Nd} (h:Tree xs) {y:Nd} (hy:rightS y.id=true) (hn:y.id∉xs.map Nd.id) (hp:Rt y.par\/(er y.par xs=true/\(eX y.par xs).dir=true)):Tree (gI xs y):=by
 have hno:=LV hn;have hid:∀z∈xs,z.id≠y.id:=λz hz e=>hn (aU.2 ⟨z,hz,e⟩)
 have up:∀{s:St},Rt s\/(er s xs=true/\(eX s xs).dir=true)->Rt s\/(er s (gI xs y)=true/\(eX s (gI xs y)).dir=true):=fun {s} hs=>by
  rcases hs with hs| ⟨h1,h2⟩
  ·exact .inl hs
  ·have hne:s≠y.id:=λe=>by rw [e,hno] at h1;cases h1
   obtain ⟨e1,e2⟩:=Aw (xs:=xs) hne;exact .inr ⟨by rw [e2];exact h1,by rw [e1];exact h2⟩
 have hs:=pG h.sorted hid;have huq:xu (gI xs y):=by
  unfold xu;rw [List.Nodup,cV];exact hs.imp fun {a b} hab e=>by rw [e,Ar] at hab;cases hab
 have afh:y∈gI xs y:=by unfold gI;simp
 refine ⟨hs,λz hz=>?_,λz hz=>?_,λz hz=>?_⟩
 ·rcases mem_grow_cases hz with rfl|hz
  ·exact hy
  ·exact h.own z hz
 ·rcases mem_grow_cases hz with rfl|hz
  ·exact up hp
  ·exact up (h.par z hz)
 ·rcases mem_grow_cases hz with rfl|hz
  ·obtain ⟨f1,f2⟩:=huq.find afh
   obtain ⟨k,hk⟩:=h.reachOf (hp.imp id And.left);exact ⟨k+1,f2,by rw [f1];exact Reach.grow hno hk⟩
  ·obtain ⟨k,hk⟩:=h.reach z hz
   exact ⟨k,Reach.grow hno hk⟩
theorem Tree.turn (h:Tree xs) {k:Nat} (hk:k < xs.length) (hz:z.id=xs[k].id) (hd:z.dir=xs[k].dir)
  (hp:Rt z.par\/(er z.par xs=true/\(eX z.par xs).dir=true))
  (hr:∃j,Reach (xs.set k z) j z.par):Tree (xs.set k z):=by
 have hmem:xs[k]∈xs:=aa hk;have afi:z∈xs.set k z:=List.mem_set hk _;have acy:(xs.set k z).map Nd.id=xs.map Nd.id:=xw xs k z hk hz;have hs:(xs.set k z).Pairwise λa b=>di a.id b.id=true:=by
  have h1:((xs.map Nd.id).Pairwise λa b=>di a b=true):=by rw [cV];exact h.sorted
  rw [<-acy,cV] at h1;exact h1
 have huq:xu (xs.set k z):=by unfold xu;rw [acy];exact h.uniq
 obtain ⟨fz1,fz2⟩:=huq.find afi;obtain ⟨fx1,fx2⟩:=h.uniq.find hmem;have hmc:∀a∈xs.set k z,a=z\/a∈xs:=λa ha=>by
  rcases List.mem_or_eq_of_mem_set ha with h1|h1
  ·exact .inr h1
  ·exact .inl h1
 have up:∀{s:St},Rt s\/(er s xs=true/\(eX s xs).dir=true)->Rt s\/(er s (xs.set k z)=true/\(eX s (xs.set k z)).dir=true):=fun {s} hs=>by
  rcases hs with hs| ⟨h1,h2⟩
  ·exact .inl hs
  ·by_cases e:s=z.id
   ·subst e
    refine .inr ⟨fz2,?_⟩;rw [fz1,hd];rw [hz,fx1] at h2;exact h2
   ·obtain ⟨e1,e2⟩:=xy hk hz e
    exact .inr ⟨by rw [e2];exact h1,by rw [e1];exact h2⟩
 have lift:∀(j:Nat) (s:St),Reach xs j s->∃j',Reach (xs.set k z) j' s:=by
  intro j;induction j with
  |zero=>exact λs hs=> ⟨0,hs⟩
  |succ j ih=>
   intro s hs;by_cases e:s=z.id
   ·subst e
    obtain ⟨j',hj'⟩:=hr;exact ⟨j'+1,fz2,by rw [fz1];exact hj'⟩
   ·obtain ⟨e1,e2⟩:=xy hk hz e
    obtain ⟨j',hj'⟩:=ih _ hs.2;exact ⟨j'+1,by rw [e2];exact hs.1,by rw [e1];exact hj'⟩
 refine ⟨hs,λa ha=>?_,λa ha=>?_,λa ha=>?_⟩
 ·rcases hmc a ha with rfl|ha
  ·rw [hz];exact h.own _ hmem
  ·exact h.own a ha
 ·rcases hmc a ha with rfl|ha
  ·exact up hp
  ·exact up (h.par a ha)
 ·rcases hmc a ha with rfl|ha
  ·obtain ⟨j,hj⟩:=h.reach _ hmem
   rw [hz];exact lift j _ hj
  ·obtain ⟨j,hj⟩:=h.reach a ha
   exact lift j _ hj
theorem Reach.keep {xs:List Nd} (hu:xu xs) {k:Nat} (hk:k < xs.length) {z:Nd} (hz:z.id=xs[k].id) (hp:z.par=xs[k].par):∀{j:Nat} {s:St},Reach xs j s->Reach (xs.set k z) j s
 |0,_,h=>h
 |j+1,s,h=>by
  by_cases e:s=z.id
  ·subst e
   have huq:xu (xs.set k z):=by unfold xu;rw [xw xs k z hk hz];exact hu
   obtain ⟨f1,f2⟩:=huq.find (List.mem_set hk z);obtain ⟨g1,_⟩:=hu.find (aa hk);refine ⟨f2,?_⟩;have:=Reach.keep hu hk hz hp h.2;rw [hz,g1,<-hp] at this;rw [f1];exact this
  ·obtain ⟨e1,e2⟩:=xy hk hz e
   exact ⟨by rw [e2];exact h.1,by rw [e1];exact Reach.keep hu hk hz hp h.2⟩
theorem Tree.nil_:Tree []:=⟨List.Pairwise.nil,(λ_ h=>absurd h bH),(λ_ h=>absurd h bH),(λ_ h=>absurd h bH)⟩
end Tr
end Go.Proofs.YtgdaahffmcfhpaaGreatDoor
