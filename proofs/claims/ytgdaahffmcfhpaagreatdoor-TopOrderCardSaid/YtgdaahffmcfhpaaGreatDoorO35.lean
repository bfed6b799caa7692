/- Lemmas on the way: Al Am An. -/
import Derived.Test.YtgdaahffmcfhpaaGreatDoorO31
import Derived.Test.YtgdaahffmcfhpaaGreatDoorO34
set_option maxRecDepth 100000
set_option maxHeartbeats 8000000
namespace Go.Proofs.YtgdaahffmcfhpaaGreatDoor
open aA
open Tryz
section
open Go.RowKit
attribute [local go_sem] dR dO dS dP
def sI (v:Value) {α:Type} (l:List α):Prop:=l=[]->v=.slice none 0 0
variable {w w':World} {B n q:Nat} {v u:Value} {xs:List Value}
theorem Af {size:Nat} (h:dQ w B size v n xs) (hn:0 < n):∃g cap,v=.slice (some ⟨g,0,none⟩) n cap/\n<=maxLen/\∀j u,xs[j]? =some u->w.cell? ⟨g,0+j,none⟩=some u:=by
 obtain ⟨g,cap,rfl,hb,hlt,hnc,hcm,hc,hf⟩:=h.form hn;exact ⟨g,cap,rfl,aI hnc hcm,λj u hu=>by rw [aV];exact hc j u hu⟩
variable {L:List dX}
theorem LD (h:gU w B v L) (hn:sI v L) (hl:L.length<=1000):
  Calls prog 62 #[v] w λe w'=>∃v',e=.returned v'/\gU w' w v' L/\sI v' L/\Below w w w':=by
 rcases Nat.eq_zero_or_pos L.length with h0|hpos
 ·obtain rfl:=az h0
  rw [hn rfl];exact (OK w).mono λe w' ⟨h1,h2⟩=> ⟨_,h1,dQ.nil_ _ _ _,λ_=>rfl,h2 ▸ aC _ _⟩
 ·obtain ⟨g,cap,rfl,hm,hc⟩:=Af h hpos
  obtain ⟨i0,hi,hz0,hz1,hz2⟩:=info_parts xV;refine (AnyE.slices_Clone cloneOp i0 _ 11 104 hi hz0 hz1 hz2 rfl (by decide) sizeOf32 g 0 L.length cap (iw L) w h.len hm (by omega) hc (ni L)).mono ?_;rintro e w' ⟨v',he,ho,hne,hb⟩;exact ⟨v',he,dQ.of_row ho,λe0=>by rw [e0] at hpos;exact absurd hpos (by simp),hb⟩
variable {P:List (List UInt8)}
theorem GZ (h:fm w B v P) (hn:sI v P) (hl:P.length<=1000):
  Calls prog 248 #[v] w λe w'=>∃v',e=.returned v'/\fm w' w v' P/\sI v' P/\Below w w w':=by
 rcases Nat.eq_zero_or_pos P.length with h0|hpos
 ·obtain rfl:=az h0
  rw [hn rfl];exact (slices_Clone_nil 0 0 w).mono λe w' ⟨h1,h2⟩=> ⟨_,h1,dQ.nil_ _ _ _,λ_=>rfl,h2 ▸ aC _ _⟩
 ·obtain ⟨g,cap,rfl,hm,hc⟩:=Af h hpos
  obtain ⟨i0,hi,hz0,hz1,hz2⟩:=info_parts Ik.info9s;refine (slices_Clone i0 _ 1 16 hi hz0 hz1 hz2 rfl (by decide) sizeOf9 g 0 P.length cap (strs P) w h.len hm (by omega) hc (by
   intro u hu;obtain ⟨s,_,rfl⟩:=aU.1 hu;rfl)).mono ?_
  rintro e w' ⟨v',he,ho,hne,hb⟩;exact ⟨v',he,dQ.of_row ho,λe0=>by rw [e0] at hpos;exact absurd hpos (by simp),hb⟩
structure WY (w:World) (o l:Nat) (v1 v2:Value) (L:List dX) (P:List (List UInt8)) (Fl:BS):Prop where
 blk:Blk w o 291 #[v1,v2,Qp l,false]
 ops:gU w 0 v1 L
 pcs:fm w 0 v2 P
 n1:sI v1 L
 n2:sI v2 P
 log:zO w Fl l (L.length+P.length)
 ho:¬ Fl o
 h1:∀g,v1.ownBlock=some g->g≠o/\¬ Fl g
 h2:∀g,v2.ownBlock=some g->g≠o/\¬ Fl g
 ll:L.length<=100
 lp:P.length<=100
def OS (o:Nat) (Fl:BS) (v1 v2:Value) (i:Nat):Prop:=i=o\/Fl i\/v1.ownBlock=some i\/v2.ownBlock=some i
def mA (w:World) (F:BS) (o:Nat) (L:List dX) (P:List (List UInt8)):Prop:=∃l v1 v2 Fl,WY w o l v1 v2 L P Fl/\F=OS o Fl v1 v2
theorem mA.kp {S F:BS} {w w':World} {o:Nat} {L:List dX} {P:List (List UInt8)} (h:mA w F o L P) (k:dm S w w') (hn:iS F S):mA w' F o L P:=by
 obtain ⟨l,v1,v2,Fl,hi,rfl⟩:=h;exact ⟨l,v1,v2,Fl,⟨hi.blk.kp k (hn o (.inl rfl)),dQ.kp hi.ops k (λg hg=>hn g (.inr (.inr (.inl hg)))),dQ.kp hi.pcs k (λg hg=>hn g (.inr (.inr (.inr hg)))),hi.n1,hi.n2,hi.log.kp k (λi hi=>hn i (.inr (.inl hi))),hi.ho,hi.h1,hi.h2,hi.ll,hi.lp⟩,rfl⟩
theorem mA.bnd {F:BS} {w:World} {o:Nat} {L:List dX} {P:List (List UInt8)} (h:mA w F o L P):G6 F w:=by
 obtain ⟨l,v1,v2,Fl,hi,rfl⟩:=h;rintro i (rfl|h1|h1|h1)
 ·exact hi.blk.lt
 ·exact hi.log.bnd i h1
 ·exact (dQ.ge hi.ops i h1).2
 ·exact (dQ.ge hi.pcs i h1).2
theorem nt (F:BS):iS F (λ_=>False):=λ_ _ h=>h
variable {F:BS}
theorem mA.below {o:Nat} (h:mA w F o L P) (hb:Below w w w'):mA w' F o L P:=h.kp (eO (S:=λ_=>False) hb) (nt F)
theorem lQ {size:Nat} (h:dQ w B size v n xs):∃A c,v=.slice A n c:=by
 rcases h.2 with ⟨rfl,rfl⟩| ⟨g,cap,rfl,_⟩
 ·exact ⟨none,0,rfl⟩
 ·exact ⟨_,cap,rfl⟩
theorem mI {o:Nat} (h:mA w F o L P):
  Calls prog 127 #[Qp o] w λe w'=>∃v',e=.returned v'/\gU w' w v' L/\sI v' L/\Below w w w':=by
 obtain ⟨l,v1,v2,Fl,hi,rfl⟩:=h;have HC:=dL (LD hi.ops hi.n1 (by have:=hi.ll;omega));obtain ⟨A,c,rfl⟩:=lQ hi.ops;have c0:=hi.blk.cell 0;simp at c0;clear hi;go_enter func127,ntmps127;go_wp2_with fail;refine HC.o.mono ?_;rintro e w1 ⟨v',rfl,ho,hn,hb⟩;obtain ⟨A',c',rfl⟩:=lQ ho;have HO:=dL ho;have HN:=dL hn;have HB:=dL hb;clear ho hn hb;go_wp2_with fail;go_ret;exact ⟨_,rfl,HO.o,HN.o,HB.o⟩
theorem lR {o:Nat} (h:mA w F o L P):
  Calls prog 173 #[Qp o] w λe w'=>∃v',e=.returned v'/\fm w' w v' P/\sI v' P/\Below w w w':=by
 obtain ⟨l,v1,v2,Fl,hi,rfl⟩:=h;have HC:=dL (GZ hi.pcs hi.n2 (by have:=hi.lp;omega));obtain ⟨A,c,rfl⟩:=lQ hi.pcs;have c1:=hi.blk.cell 1;simp at c1;clear hi;go_enter func173,ntmps173;go_wp2_with fail;refine HC.o.mono ?_;rintro e w1 ⟨v',rfl,ho,hn,hb⟩;obtain ⟨A',c',rfl⟩:=lQ ho;have HO:=dL ho;have HN:=dL hn;have HB:=dL hb;clear ho hn hb;go_wp2_with fail;go_ret;exact ⟨_,rfl,HO.o,HN.o,HB.o⟩
theorem EL {o:Nat} (h:mA w F o [] P):
  Calls prog 175 #[Qp o,qn] w (dM w (.tuple #[.agg #[yh,qn],yh,qn])):=by
 obtain ⟨l,v1,v2,Fl,hi,rfl⟩:=h;obtain rfl:=hi.n1 rfl;have dV:=dH w (.cells #[qn,qn] 30);have hB:=hi.blk.below dV hi.blk.lt;have hq:=Blk.new w 30 #[qn,qn];obtain ⟨w1,hw1⟩:=dG (w.alloc (.cells #[qn,qn] 30));rw [<-hw1] at dV hB hq;obtain ⟨q,iC⟩:=dG w.heap.size;rw [<-iC] at hq;have c0:=hB.cell 0;simp at c0;have HW:=dL hw1;have HQ:=dL iC;have eR:=dL dV;have ZN:=dL hq;clear hi hw1 iC dV hB hq;go_enter func175,ntmps175;go_upto_region 1 with (fail);rw [<-HW.o,<-HQ.o];go_wp2_with fail;refine wp_loop_rounds 1 ?_;rw [rounds_succ];go_wp2_with fail;refine (Zw _).mono ?_;rintro e w2 ⟨rfl,dY⟩;have ig:=ZN.o.below dY ZN.o.lt;have Cu:w.heap.size<=q:=by rw [HQ.o];exact aB _
 have nI:=eR.o.trans (dY.mono eR.o.size);have dn:=((nI.setCell (p:=q) Cu (.int .i64 1)).setCell (p:=Qc q 1) Cu (.int .i64 0));have eC:=dL (dn.alloc (aI nI.size (by simp [World.setCell])) (.cells #[yh,qn] 30));have sQ:=((ig.set_ 0 (.int .i64 1)).set_ 1 (.int .i64 0)).alloc (.cells #[yh,qn] 30);have e0:=sQ.cell 0;have e1:=sQ.cell 1;simp only [aH,aF,aG,aO,aT,aZ] at e0 e1;have hlt:=ig.lt;have f0:=ig.frozen 0;have f1:=ig.frozen 1;have d0:=ig.cell 0;have d1:=ig.cell 1;simp at d0 d1;have E0:=dL e0;have E1:=dL e1;clear dY dn ig sQ nI c0 e0 e1;go_wp2_with fail;exact bodyPost_ret (v:=.tuple #[.agg #[yh,qn],yh,qn]) (by simp [results,results175,go_sem,E0.o,E1.o]) rfl ⟨rfl,eC.o⟩
theorem dQ.kp1 {size:Nat} (h:dQ w B size v n xs) (k:dm (λi=>i=q) w w') (hq:q < B):dQ w' B size v n xs:=
 dQ.kp h k (λg hg e=>by have:=(dQ.ge h g hg).1;omega)
theorem aap (p:List UInt8) (q:Nat) (A:Option Addr) (n c:Nat) (w:World) (hq:Blk w q 288 #[Qq A n c,()]):
  Calls prog 311 #[Qp q,p] w λe w'=>∃g cap,e=.returned false/\Blk w' q 288 #[Qq A n c,.slice (some ⟨g,0,none⟩) 1 cap]/\dQ w' w 1 (.slice (some ⟨g,0,none⟩) 1 cap) 1 [.string (bs p)]/\dm (λi=>i=q) w w':=by
 obtain ⟨i0,hi,hz0,hz1,hz2⟩:=info_parts Ik.info9s;have hC:=slices_Contains_string_empty none 0 (bs p);have HC:=dL hC;have c1:=hq.cell 1;simp at c1;have HI:=dL hi;have gx:=dL hz0;have gJ:=dL hz1;have gT:=dL hz2;have HQ:=dL hq;have Tz:=hq.lt;clear hi hz0 hz1 hz2 hC hq;go_enter func311,ntmps311;go_wp2_with fail;refine (HC.o _).mono ?_;rintro e w1 ⟨rfl,rfl⟩;go_wp2_with (at_builtin;refine de _ rfl (.tmp 18) (.tmp 20) 99 99 rfl 9 i0 (.string ⟨#[]⟩) 1 underlying99 HI.o gx.o gJ.o rfl (by decide) rfl _ rfl 1 (by decide) [.string (bs p)] (Src.one underlying99 (by simp [go_sem]) rfl) (by decide) (by rw [gT.o];decide) ?_)
 intro cap w2 hown dY;have M6:Below w1 w1 w2:=((aC w1 w1).alloc (aB _) _).trans (dY.mono (by simp));have ig:=HQ.o.below M6 Tz;have d1:=ig.cell 1;have z1:=ig.frozen 1;simp at d1;obtain ⟨G,hG⟩:=dG (w1.heap.size+1);have hGs:w1.heap.size<=G:=by omega
 rw [<-hG] at hown;have hK:dm (λi=>i=q) w1 (w2.setCell (Qc q 1) (.slice (some G) 1 cap)):=dw (eO M6) ⟨q,1,none⟩ _ (λ_=>rfl);have HB:=dL (ig.set_ 1 (.slice (some G) 1 cap));have HO:=dL (dQ.kp1 (dQ.mono (B':=w1.heap.size+1) hown (by omega)) (dw (eT (λi=>i=q) w2) ⟨q,1,none⟩ (.slice (some G) 1 cap) (λ_=>rfl)) (by omega));have HK:=dL hK;have HG:=dL hG;clear hown dY M6 ig hK hG;rw [<-HG.o];go_wp2_with fail;go_ret;exact ⟨G,cap,rfl,by have:=HB.o;simpa using this,dQ.mono (B':=w1.heap.size) HO.o (by omega),HK.o⟩
structure Cn (q s:Nat) (x:dX) (u:Value) (w:World):Prop where
 k:mw q x w
 s:Blk w s 288 #[(),u]
theorem Cn.cells{s:Nat} {x:dX} (h:Cn q s x u w):w.cell? s=()/\w.cell? q=x.st.1/\w.cell? (Qc q 1)=x.st.2/\w.cell? (Qc q 2)=x.seq/\w.cell? (Qc q 3)=x.kind/\w.cell? (Qc q 4)=x.node.1/\
  w.cell? (Qc q 5)=x.node.2/\w.cell? (Qc q 6)=x.dir/\w.cell? (Qc q 7)=x.par.1/\w.cell? (Qc q 8)=x.par.2/\w.cell? (Qc q 9)=x.nm/\w.cell? (Qc q 10)=x.mf:=
 ⟨h.s.cell 0,h.k.all⟩
theorem Cn.drew {q s:Nat} {x:dX} {u:Value} {w:World} (h:Cn q s x u w):Cn q s x u w.drew:=⟨h.k.drew,h.s.drew⟩
theorem Cn.later {q s:Nat} {x:dX} {u:Value} {w w':World} (h:Cn q s x u w) (hb:Below w w w'):Cn q s x u w':=⟨h.k.later hb,h.s.below hb h.s.lt⟩
theorem Uu (x:dX) (hs:x.seq=1) (hrc:sG x=0) (hn:x.nm.length<=9223372036854775807) (hm:x.mf.length<=9223372036854775807) (s:Nat) (A:Option Addr) (n c:Nat) (w:World) (hq:Blk w s 288 #[(),Qq A n c]):
  Calls prog 310 #[Qp s,ov x] w λe w'=>∃g cap,e=.returned (.tuple #[false,qn])/\Blk w' s 288 #[.slice (some ⟨g,0,none⟩) 1 cap,Qq A n c]/\dQ w' w 11 (.slice (some ⟨g,0,none⟩) 1 cap) 1 (iw [x])/\dm (λi=>i=s) w w':=by
 have HA:=dL (adW x hs hrc hn hm);have gH:Blk (w.alloc (.cells (oc x).toArray 32)) w 32 (oc x).toArray:=Blk.new w 32 (oc x).toArray;have dV:=dH w (.cells (oc x).toArray 32);obtain ⟨w1,hw1⟩:=dG (w.alloc (.cells (oc x).toArray 32));rw [<-hw1] at gH dV;obtain ⟨q,iC⟩:=dG w.heap.size;rw [<-iC] at gH;have hslt:=hq.lt;have Lx:dK (Cn q s x (.slice A n c) w1):=dL ⟨⟨gH⟩,hq.below dV hslt⟩;have HW:=dL (dN (x:=x) hw1);have HQ:=dL iC;have ZL:=dL dV;clear gH dV hw1 iC hrc hs hq;unfold ov at HA ⊢;go_enter func310,ntmps310;go_upto_region 1 with (fail);rw [<-HW.o,<-HQ.o];have KC:=Cn.cells Lx.o;go_region_held3 (λw'=>w'.cell? s=()/\w'.cell? q=x.st.1/\w'.cell? (Qc q 1)=x.st.2/\w'.cell? (Qc q 2)=x.seq/\w'.cell? (Qc q 3)=x.kind/\w'.cell? (Qc q 4)=x.node.1/\
  w'.cell? (Qc q 5)=x.node.2/\w'.cell? (Qc q 6)=x.dir/\w'.cell? (Qc q 7)=x.par.1/\w'.cell? (Qc q 8)=x.par.2/\w'.cell? (Qc q 9)=x.nm/\w'.cell? (Qc q 10)=x.mf)
  (with_reducible first|exact Cn.cells Mf.o|exact Cn.cells Lx.o|exact Cn.cells (Cn.drew Lx.o)|exact Cn.cells (Cn.drew (Cn.drew Lx.o)))
  (first|(go_at_call 19;refine (HA.o _).mono ?_;rintro e w2 ⟨g,cap,rfl,ho,hb⟩;have hb':Below w1 w1 w2:=(aC _ w1).drew.trans hb;have Mf:=dL (Cn.later Lx.o hb');have HO:=dL (dQ.mono (B':=w1.heap.size) ho (aB _));have eA:=dJ ZL hb';clear ho hb hb'))
 clear KC;have d0:=Mf.o.s.cell 0;have z0:=Mf.o.s.frozen 0;simp at d0;have oO:=dL (Mf.o.s.set_ 0 (.slice (some ⟨g,0,none⟩) 1 cap));have hs1:w.heap.size<=w1.heap.size:=ZL.o.size;have yx:s < w1.heap.size:=by omega
 have HOk:=dL (dQ.kp1 HO.o (dw (eT (λi=>i=s) w2) ⟨s,0,none⟩ (.slice (some ⟨g,0,none⟩) 1 cap) (λ_=>rfl)) yx);have HKp:=dL (dw (eO (S:=λi=>i=s) eA.o) ⟨s,0,none⟩ (.slice (some ⟨g,0,none⟩) 1 cap) (λ_=>rfl));go_wp2_with fail;go_ret2;exact ⟨g,cap,rfl,by have:=oO.o;simpa using this,dQ.mono (B':=w.heap.size) HOk.o hs1,HKp.o⟩
theorem Ss (p:List UInt8) (hp1:1<=p.length) (hp2:p.length<=256) (gp cp:Nat) (x:dX) (hx:FQ x) (hs:x.seq=1) (hrc:sG x=0) (gl cl:Nat) (w:World) (Cm:gp < w.heap.size) (uE:w.cell? gp=p) (qY:gl < w.heap.size) (hcl:∀j u,(oc x)[j]? =some u->w.cell? ⟨gl,0+j,none⟩=some u):
  Calls prog 359 #[.agg #[(),()],Qs gp 1 cp,Qs gl 1 cl] w λe w'=>∃G1 c1 G2 c2 G3 c3,e=.returned (.tuple #[.agg #[.slice (some ⟨G1,0,none⟩) 1 c1,.slice (some ⟨G2,0,none⟩) 1 c2],.slice (some ⟨G3,0,none⟩) 2 c3,qn])/\gU w' w (.slice (some ⟨G1,0,none⟩) 1 c1) [x]/\fm w' w (.slice (some ⟨G2,0,none⟩) 1 c2) [p]/\fm w' w (.slice (some ⟨G3,0,none⟩) 2 c3) [112 :: p,111 :: gy x]/\Below w w w':=by
 obtain ⟨i0,hi,hz0,hz1,hz2⟩:=info_parts Ik.info9s;have nE:Blk ((w.alloc (.cells #[(),()] 288)).alloc (.cells #[(),()] 288)) w 288 #[(),()]:=(Blk.new w 288 _).alloc _;have sR:Blk ((w.alloc (.cells #[(),()] 288)).alloc (.cells #[(),()] 288)) (w.heap.size+1) 288 #[(),()]:=by
  have:=Blk.new (w.alloc (.cells #[(),()] 288)) 288 #[(),()]
  rwa [show (w.alloc (.cells #[(),()] 288)).heap.size=w.heap.size+1 from ai _] at this
 have dV:Below w w ((w.alloc (.cells #[(),()] 288)).alloc (.cells #[(),()] 288)):=((aC _ w).alloc (aB _) _).alloc (by simp) _;obtain ⟨w1,hw1⟩:=dG ((w.alloc (.cells #[(),()] 288)).alloc (.cells #[(),()] 288));obtain ⟨t,ht⟩:=dG (w.heap.size+1);obtain ⟨s,yx⟩:=dG w.heap.size;rw [<-hw1] at nE sR dV;rw [<-ht] at sR;rw [<-yx] at nE;have hts:t≠s:=by omega
 have hsw:w.heap.size<=s:=by omega
 have IB:w.heap.size<=t:=by omega
 have yT:=dL hw1;have HT:=dL ht;have HS:=dL yx;have sS:=nE.set_ 1 (.slice none 0 0);have yc:=sR.far (p:=Qc s 1) hts (.slice none 0 0);have dY:=dV.setCell (p:=Qc s 1) hsw (.slice none 0 0);simp only [aH,aF,aG] at sS;obtain ⟨w2,eV⟩:=dG (w1.setCell (Qc s 1) ());rw [<-eV] at sS yc dY;have rH:=dL eV;have c1:=nE.cell 1;simp at c1;have z1:=nE.frozen 1;have CS:=(aM (a:=⟨gp,0,none⟩) (dY.block gp Cm)).trans uE;have yb:=dL hcl;have k1:({ data:=#[112] }:ByteArray)++bs p=bs (112 :: p):=(dP [112] p);have k2:({ data:=#[111] }:ByteArray)++bs (gy x)=bs (111 :: gy x):=(dP [111] (gy x));have hel:=lP x hx;have k4:¬ 9223372036854775807 < 1+(gy x).length:=by omega
 have HEL:=dL hel;have k3:¬ 9223372036854775807 < 1+p.length:=by omega
 have HI:=dL hi;have gx:=dL hz0;have gJ:=dL hz1;have gT:=dL hz2;have MX:=dL sS;have RN:=dL yc;have HB:=dL dY;have HA:=dL (Uu x hs hrc (by have:=hx.nm;omega) (by have:=hx.mf;omega));have HE:=dL (qu x hx hrc);have HOX:=dL hx;clear hi hz0 hz1 hz2 nE sR dV sS yc dY hw1 eV ht yx hs hrc hx hcl hel;have HP1:=dL hp1;have M7:=dL hp2;clear hp1 hp2 uE;unfold ov at HA HE;go_enter func359,ntmps359;go_upto_region 1 with (fail);rw [<-yT.o,<-HT.o,<-HS.o];go_wp2_with fail;refine (slices_Clone_nil 0 0 _).mono ?_;rintro e w1 ⟨rfl,rfl⟩;go_upto_region 2 with (fail);rw [<-rH.o];clear c1 z1;go_wp2_with fail;refine wp_loop_rounds 2 ?_;rw [rounds_succ];go_wp2_with fail;refine (xF p HP1.o M7.o _).mono ?_;rintro e w2 ⟨rfl,rfl⟩;go_wp2_with fail;refine (aap p s _ _ _ _ MX.o).mono ?_;rintro e w3 ⟨G2,cap2,rfl,R1,BB,oD⟩;have Ca:=dL R1;have Cb:=dL (RN.o.kp oD hts);have eC:=dL (eL HB.o oD (λi hi=>by rw [hi];exact hsw) HB.o.size);have qL:=dL ((dQ.mono (B':=w.heap.size) BB HB.o.size));have abZ:G2≠s:=by have:=(dQ.ge BB G2 rfl).1;have:=MX.o.lt;omega
 have Xi:G2≠t:=by have:=(dQ.ge BB G2 rfl).1;have:=RN.o.lt;omega
 have Xj:G2 < w3.heap.size:=(dQ.ge BB G2 rfl).2;clear R1 BB oD CS MX RN HB HP1 M7;go_wp2_with (at_builtin;refine de _ rfl (.tmp 34) (.tmp 37) 99 99 rfl 9 i0 (.string ⟨#[]⟩) 1 underlying99 HI.o gx.o gJ.o rfl (by decide) rfl _ rfl 1 (by decide) [.string (bs (112 :: p))] (Src.one underlying99 (by simp [go_sem]) rfl) (by decide) (by rw [gT.o];decide) ?_)
 intro MJ w4 hown hb4;have kF:Below w3 w3 w4:=((aC w3 w3).alloc (aB _) _).trans (hb4.mono (by simp));obtain ⟨G3,R2⟩:∃G,G=w3.heap.size+1:=⟨_,rfl⟩;rw [<-R2] at hown;have uC:=dL (Ca.o.below kF Ca.o.lt);have yd:=dL (Cb.o.below kF Cb.o.lt);have fI:=dJ eC kF;have rI:=dL (dQ.below qL.o kF);have HR4:=dL (dQ.mono (B':=w.heap.size) hown (by have:=eC.o.size;omega));have Xk:G3≠s:=by have:=Ca.o.lt;omega
 have Cq:=dL R2;have Xl:G3≠t:=by have:=Cb.o.lt;omega
 have acd:w.heap.size<=G3:=by have:=eC.o.size;omega
 have ace:G2≠G3:=by omega
 clear Xj;clear hown hb4 kF R2 Ca Cb eC qL k1 k3;rw [<-Cq.o];go_wp2_with fail;rw [rounds_succ];go_wp2_with fail;refine wp_loop_rounds 2 ?_;rw [rounds_succ];have hcl:∀j u,(oc x)[j]? =some u->w4.cell? ⟨gl,0+j,none⟩=some u:=λj u hu=>(aM (a:=⟨gl,0+j,none⟩) (fI.o.block gl qY)).trans (yb.o j u hu)
 have e0:=hcl 0 _ rfl;have e1:=hcl 1 _ rfl;have e2:=hcl 2 _ rfl;have e3:=hcl 3 _ rfl;have e4:=hcl 4 _ rfl;have e5:=hcl 5 _ rfl;have e6:=hcl 6 _ rfl;have e7:=hcl 7 _ rfl;have e8:=hcl 8 _ rfl;have e9:=hcl 9 _ rfl;have wD:=hcl 10 _ rfl;simp only [aV] at e0 e1 e2 e3 e4 e5 e6 e7 e8 e9 wD;clear hcl yb;have vU:Blk (w4.alloc (.cells (oc x).toArray 32)) w4 32 (oc x).toArray:=Blk.new w4 32 (oc x).toArray;have ef:=dH w4 (.cells (oc x).toArray 32);obtain ⟨w5,iB⟩:=dG (w4.alloc (.cells (oc x).toArray 32));rw [<-iB] at vU ef;have zX:=dL (dN (x:=x) iB);obtain ⟨q,hq⟩:=dG w4.heap.size;rw [<-hq] at vU;have HQ:=dL hq;have Qb:=dL (uC.o.below ef uC.o.lt);have IC:=dL (yd.o.below ef yd.o.lt);have fk:=dJ fI ef;have sn:=dL (dQ.below rI.o ef);have XR:=dL (dQ.below HR4.o ef);have Ey:=dL vU;have hqs:q≠s:=by have:=uC.o.lt;omega
 have Cu:w.heap.size<=q:=by have:=fI.o.size;omega
 clear vU ef iB hq uC yd fI rI HR4;go_upto_region 14 with (fail);rw [<-zX.o,<-HQ.o];clear e0 e1 e2 e3 e4 e5 e6 e7 e8 e9 wD;obtain ⟨c0,c1,c2,c3,c4,c5,c6,c7,c8,c9,jX⟩:=dx Ey.o;go_wp2_with fail;refine (HA.o s _ _ _ _ Qb.o).mono ?_;rintro e w6 ⟨G1,Cj,rfl,R3,IU,zh⟩;have ID:=dL R3;have IE:=dL (IC.o.kp zh hts);have XO:=dL (Ey.o.kp zh hqs);have jt:=dL (eL fk.o zh (λi hi=>by rw [hi];exact hsw) fk.o.size);have HV6:=dL (dQ.mono (B':=w.heap.size) IU fk.o.size);have IA:=dL (dQ.kp sn.o zh (λg hg=>by cases hg;exact abZ));have RH:=dL (dQ.kp XR.o zh (λg hg=>by cases hg;exact Xk));have Xm:G1≠t:=by have:=(dQ.ge IU G1 rfl).1;have:=IC.o.lt;omega
 have aeX:G1≠G3:=by have:=(dQ.ge IU G1 rfl).1;have:=(dQ.ge XR.o G3 rfl).2;omega
 clear R3 IU zh c0 c1 c2 c3 c4 c5 c6 c7 c8 c9 jX Qb IC Ey fk sn XR;obtain ⟨c0,c1,c2,c3,c4,c5,c6,c7,c8,c9,jX⟩:=dx XO.o;go_wp2_with fail;refine (HE.o _).mono ?_;rintro e w7 ⟨rfl,lq⟩;have M8:=dL (ID.o.below lq ID.o.lt);have F9:=dL (IE.o.below lq IE.o.lt);have lZ:=dJ jt lq;have HV7:=dL (dQ.below HV6.o lq);have HO7:=dL (dQ.below IA.o lq);have HR7:=dL (dQ.below RH.o lq);clear lq c0 c1 c2 c3 c4 c5 c6 c7 c8 c9 jX ID IE XO jt HV6 IA RH;go_wp2_with (at_builtin;refine dW _ rfl (.tmp 65) (.tmp 68) 99 99 rfl 9 i0 (.string ⟨#[]⟩) 1 underlying99 HI.o gx.o gJ.o rfl (by decide) w _ 1 [.string (bs (112 :: p))] rfl (dQ.alloc HR7.o _) _ rfl 1 [.string (bs (111 :: gy x))] (Src.one underlying99 (by simp [go_sem]) rfl) (by decide) (by rw [gT.o];decide) (by have:=lZ.o.size;simp;omega) ?_)
 intro v8 w8 hown adx ady;obtain ⟨G,MK,rfl,-,-,-,-,-,-⟩:=hown.form (by decide);have VV:G=G3\/w7.heap.size<=G:=by
  rcases ady with h1|h1
  ·left;cases h1;rfl
  ·right;cases h1;simp
 have VC:dm (λi=>i=G3) w7 w8:=eF (rj (eT _ _) _) (ek (S:=λi=>i=G3) adx (λi hi=>by cases hi;rfl)) (λ_ _ h=>h);have hGt:G≠t:=by have:=F9.o.lt;rcases VV with h1|h1 <;> omega
 have UA:=dL hown;clear hown adx ady VV;have Cc:=dL (M8.o.kp VC (Ne.symm Xk));have oR:=dL (F9.o.kp VC (Ne.symm Xl));have rD:=dL (eL lZ.o VC (λi hi=>by rw [hi];exact acd) lZ.o.size);have HV8:=dL (dQ.kp HV7.o VC (λg hg=>by cases hg;exact aeX));have ZO:=dL (dQ.kp HO7.o VC (λg hg=>by cases hg;exact ace));clear VC M8 F9 lZ HV7 HO7 HR7 k2 k4;go_wp2_with fail;rw [rounds_succ];have s0:=Cc.o.cell 0;have s1:=Cc.o.cell 1;have t0:=oR.o.cell 0;have t1:=oR.o.cell 1;simp at s0 s1 t0 t1;have y0:=oR.o.frozen 0;have y1:=oR.o.frozen 1;have yz:=(oR.o.set_ 0 (.slice (some ⟨G1,0,none⟩) 1 Cj)).set_ 1 (.slice (some ⟨G2,0,none⟩) 1 cap2);have r0:=yz.cell 0;have r1:=yz.cell 1;simp only [aH,aF,aG,aO,aT,aZ] at r0 r1;have E0:=dL r0;have E1:=dL r1;clear yz r0 r1;have VW:dm (λi=>i=t) w8 ((w8.setCell t (.slice (some ⟨G1,0,none⟩) 1 Cj)).setCell (Qc t 1) (.slice (some ⟨G2,0,none⟩) 1 cap2)):=dw (S:=λi=>i=t) (dw (S:=λi=>i=t) (eT (λi=>i=t) w8) ⟨t,0,none⟩ _ (λ_=>rfl)) ⟨t,1,none⟩ _ (λ_=>rfl);have Jc:=dL VW;clear VW;go_wp2_with fail;exact bodyPost_ret (v:=.tuple #[.agg #[.slice (some ⟨G1,0,none⟩) 1 Cj,.slice (some ⟨G2,0,none⟩) 1 cap2],.slice (some ⟨G,0,none⟩) 2 MK,qn]) (by simp [results,results359,go_sem,E0.o,E1.o]) rfl ⟨G1,Cj,G2,cap2,G,MK,rfl,dQ.kp HV8.o Jc.o (λg hg=>by cases hg;exact Xm),dQ.kp ZO.o Jc.o (λg hg=>by cases hg;exact Xi),dQ.kp UA.o Jc.o (λg hg=>by cases hg;exact hGt),eL rD.o Jc.o (λi hi=>by rw [hi];exact IB) rD.o.size⟩
theorem Su (x:dX) (hx:FQ x) (hs:x.seq=1) (hrc:sG x=0) (gl cl:Nat) (w:World) (qY:gl < w.heap.size) (hcl:∀j u,(oc x)[j]? =some u->w.cell? ⟨gl,0+j,none⟩=some u):
  Calls prog 359 #[.agg #[(),()],(),Qs gl 1 cl] w λe w'=>∃G1 c1 G3 c3,e=.returned (.tuple #[.agg #[.slice (some ⟨G1,0,none⟩) 1 c1,()],.slice (some ⟨G3,0,none⟩) 1 c3,qn])/\gU w' w (.slice (some ⟨G1,0,none⟩) 1 c1) [x]/\fm w' w (.slice (some ⟨G3,0,none⟩) 1 c3) [111 :: gy x]/\Below w w w':=by
 obtain ⟨i0,hi,hz0,hz1,hz2⟩:=info_parts Ik.info9s;have nE:Blk ((w.alloc (.cells #[(),()] 288)).alloc (.cells #[(),()] 288)) w 288 #[(),()]:=(Blk.new w 288 _).alloc _;have sR:Blk ((w.alloc (.cells #[(),()] 288)).alloc (.cells #[(),()] 288)) (w.heap.size+1) 288 #[(),()]:=by
  have:=Blk.new (w.alloc (.cells #[(),()] 288)) 288 #[(),()]
  rwa [show (w.alloc (.cells #[(),()] 288)).heap.size=w.heap.size+1 from ai _] at this
 have dV:Below w w ((w.alloc (.cells #[(),()] 288)).alloc (.cells #[(),()] 288)):=((aC _ w).alloc (aB _) _).alloc (by simp) _;obtain ⟨w1,hw1⟩:=dG ((w.alloc (.cells #[(),()] 288)).alloc (.cells #[(),()] 288));obtain ⟨t,ht⟩:=dG (w.heap.size+1);obtain ⟨s,yx⟩:=dG w.heap.size;rw [<-hw1] at nE sR dV;rw [<-ht] at sR;rw [<-yx] at nE;have hts:t≠s:=by omega
 have hsw:w.heap.size<=s:=by omega
 have IB:w.heap.size<=t:=by omega
 have yT:=dL hw1;have HT:=dL ht;have HS:=dL yx;have sS:=nE.set_ 1 (.slice none 0 0);have yc:=sR.far (p:=Qc s 1) hts (.slice none 0 0);have dY:=dV.setCell (p:=Qc s 1) hsw (.slice none 0 0);simp only [aH,aF,aG] at sS;obtain ⟨w2,eV⟩:=dG (w1.setCell (Qc s 1) ());rw [<-eV] at sS yc dY;have rH:=dL eV;have c1:=nE.cell 1;simp at c1;have z1:=nE.frozen 1;have yb:=dL hcl;have k2:({ data:=#[111] }:ByteArray)++bs (gy x)=bs (111 :: gy x):=(dP [111] (gy x));have hel:=lP x hx;have k4:¬ 9223372036854775807 < 1+(gy x).length:=by omega
 have HEL:=dL hel;have HI:=dL hi;have gx:=dL hz0;have gJ:=dL hz1;have gT:=dL hz2;have MX:=dL sS;have RN:=dL yc;have HB:=dL dY;have HA:=dL (Uu x hs hrc (by have:=hx.nm;omega) (by have:=hx.mf;omega));have HE:=dL (qu x hx hrc);have HOX:=dL hx;clear hi hz0 hz1 hz2 nE sR dV sS yc dY hw1 eV ht yx hs hrc hx hcl hel;unfold ov at HA HE;go_enter func359,ntmps359;go_upto_region 1 with (fail);rw [<-yT.o,<-HT.o,<-HS.o];go_wp2_with fail;refine (slices_Clone_nil 0 0 _).mono ?_;rintro e w1 ⟨rfl,rfl⟩;go_upto_region 2 with (fail);rw [<-rH.o];clear c1 z1;go_wp2_with fail;refine wp_loop_rounds 1 ?_;rw [rounds_succ];go_wp2_with fail;have uC:=MX;have yd:=RN;have fI:=HB;clear MX RN HB;obtain ⟨w4,rE⟩:=dG w2;rw [<-rE] at uC yd fI ⊢;clear rE;refine wp_loop_rounds 2 ?_;rw [rounds_succ];have hcl:∀j u,(oc x)[j]? =some u->w4.cell? ⟨gl,0+j,none⟩=some u:=λj u hu=>(aM (a:=⟨gl,0+j,none⟩) (fI.o.block gl qY)).trans (yb.o j u hu)
 have e0:=hcl 0 _ rfl;have e1:=hcl 1 _ rfl;have e2:=hcl 2 _ rfl;have e3:=hcl 3 _ rfl;have e4:=hcl 4 _ rfl;have e5:=hcl 5 _ rfl;have e6:=hcl 6 _ rfl;have e7:=hcl 7 _ rfl;have e8:=hcl 8 _ rfl;have e9:=hcl 9 _ rfl;have wD:=hcl 10 _ rfl;simp only [aV] at e0 e1 e2 e3 e4 e5 e6 e7 e8 e9 wD;clear hcl yb;have vU:Blk (w4.alloc (.cells (oc x).toArray 32)) w4 32 (oc x).toArray:=Blk.new w4 32 (oc x).toArray;have ef:=dH w4 (.cells (oc x).toArray 32);obtain ⟨w5,iB⟩:=dG (w4.alloc (.cells (oc x).toArray 32));rw [<-iB] at vU ef;have zX:=dL (dN (x:=x) iB);obtain ⟨q,hq⟩:=dG w4.heap.size;rw [<-hq] at vU;have HQ:=dL hq;have Qb:=dL (uC.o.below ef uC.o.lt);have IC:=dL (yd.o.below ef yd.o.lt);have fk:=dJ fI ef;have Ey:=dL vU;have hqs:q≠s:=by have:=uC.o.lt;omega
 have Cu:w.heap.size<=q:=by have:=fI.o.size;omega
 clear vU ef iB hq uC yd fI;go_upto_region 14 with (fail);rw [<-zX.o,<-HQ.o];clear e0 e1 e2 e3 e4 e5 e6 e7 e8 e9 wD;obtain ⟨c0,c1,c2,c3,c4,c5,c6,c7,c8,c9,jX⟩:=dx Ey.o;go_wp2_with fail;refine (HA.o s _ _ _ _ Qb.o).mono ?_;rintro e w6 ⟨G1,Cj,rfl,R3,IU,zh⟩;have ID:=dL R3;have IE:=dL (IC.o.kp zh hts);have XO:=dL (Ey.o.kp zh hqs);have jt:=dL (eL fk.o zh (λi hi=>by rw [hi];exact hsw) fk.o.size);have HV6:=dL (dQ.mono (B':=w.heap.size) IU fk.o.size);have Xm:G1≠t:=by have:=(dQ.ge IU G1 rfl).1;have:=IC.o.lt;omega
 clear R3 IU zh c0 c1 c2 c3 c4 c5 c6 c7 c8 c9 jX Qb IC Ey fk;obtain ⟨c0,c1,c2,c3,c4,c5,c6,c7,c8,c9,jX⟩:=dx XO.o;go_wp2_with fail;refine (HE.o _).mono ?_;rintro e w7 ⟨rfl,lq⟩;have M8:=dL (ID.o.below lq ID.o.lt);have F9:=dL (IE.o.below lq IE.o.lt);have lZ:=dJ jt lq;have HV7:=dL (dQ.below HV6.o lq);clear lq c0 c1 c2 c3 c4 c5 c6 c7 c8 c9 jX ID IE XO jt HV6;go_wp2_with (at_builtin;refine de _ rfl (.tmp 65) (.tmp 68) 99 99 rfl 9 i0 (.string ⟨#[]⟩) 1 underlying99 HI.o gx.o gJ.o rfl (by decide) rfl _ rfl 1 (by decide) [.string (bs (111 :: gy x))] (Src.one underlying99 (by simp [go_sem]) rfl) (by decide) (by rw [gT.o];decide) ?_)
 intro MJ w8 hown uk;have vV:Below w7 w7 w8:=((aC w7 w7).alloc (aB _) _).trans (uk.mono (by simp));obtain ⟨G3,R2⟩:∃G,G=w7.heap.size+1:=⟨_,rfl⟩;rw [<-R2] at hown;have UA:=dL (dQ.mono (B':=w.heap.size) hown (by have:=lZ.o.size;omega));have Cq:=dL R2;clear R2 hown uk;have hGt:G3≠t:=by have:=F9.o.lt;have:=Cq.o;omega
 have Cc:=dL (M8.o.below vV M8.o.lt);have oR:=dL (F9.o.below vV F9.o.lt);have rD:=dJ lZ vV;have HV8:=dL (dQ.below HV7.o vV);clear vV M8 F9 lZ HV7 k2 k4;rw [<-Cq.o];go_wp2_with fail;rw [rounds_succ];have s0:=Cc.o.cell 0;have s1:=Cc.o.cell 1;have t0:=oR.o.cell 0;have t1:=oR.o.cell 1;simp at s0 s1 t0 t1;have y0:=oR.o.frozen 0;have y1:=oR.o.frozen 1;have yz:=(oR.o.set_ 0 (.slice (some ⟨G1,0,none⟩) 1 Cj)).set_ 1 (.slice none 0 0);have r0:=yz.cell 0;have r1:=yz.cell 1;simp only [aH,aF,aG,aO,aT,aZ] at r0 r1;have E0:=dL r0;have E1:=dL r1;clear yz r0 r1;have VW:dm (λi=>i=t) w8 ((w8.setCell t (.slice (some ⟨G1,0,none⟩) 1 Cj)).setCell (Qc t 1) ()):=dw (S:=λi=>i=t) (dw (S:=λi=>i=t) (eT (λi=>i=t) w8) ⟨t,0,none⟩ _ (λ_=>rfl)) ⟨t,1,none⟩ _ (λ_=>rfl);have Jc:=dL VW;clear VW;go_wp2_with fail;exact bodyPost_ret (v:=.tuple #[.agg #[.slice (some ⟨G1,0,none⟩) 1 Cj,()],.slice (some ⟨G3,0,none⟩) 1 MJ,qn]) (by simp [results,results359,go_sem,E0.o,E1.o]) rfl ⟨G1,Cj,G3,MJ,rfl,dQ.kp HV8.o Jc.o (λg hg=>by cases hg;exact Xm),dQ.kp UA.o Jc.o (λg hg=>by cases hg;exact hGt),eL rD.o Jc.o (λi hi=>by rw [hi];exact IB) rD.o.size⟩
theorem Sv (p:List UInt8) (hp1:1<=p.length) (hp2:p.length<=256) (gp cp:Nat) (A:Option Addr) (n c:Nat) (w:World) (Cm:gp < w.heap.size) (uE:w.cell? gp=p):
  Calls prog 359 #[.agg #[Qq A n c,()],Qs gp 1 cp,()] w λe w'=>∃G2 c2 G3 c3,e=.returned (.tuple #[.agg #[Qq A n c,.slice (some ⟨G2,0,none⟩) 1 c2],.slice (some ⟨G3,0,none⟩) 1 c3,qn])/\fm w' w (.slice (some ⟨G2,0,none⟩) 1 c2) [p]/\fm w' w (.slice (some ⟨G3,0,none⟩) 1 c3) [112 :: p]/\Below w w w':=by
 obtain ⟨i0,hi,hz0,hz1,hz2⟩:=info_parts Ik.info9s;have nE:Blk ((w.alloc (.cells #[Qq A n c,()] 288)).alloc (.cells #[(),()] 288)) w 288 #[Qq A n c,()]:=(Blk.new w 288 _).alloc _;have sR:Blk ((w.alloc (.cells #[Qq A n c,()] 288)).alloc (.cells #[(),()] 288)) (w.heap.size+1) 288 #[(),()]:=by
  have:=Blk.new (w.alloc (.cells #[Qq A n c,()] 288)) 288 #[(),()]
  rwa [show (w.alloc (.cells #[Qq A n c,()] 288)).heap.size=w.heap.size+1 from ai _] at this
 have dV:Below w w ((w.alloc (.cells #[Qq A n c,()] 288)).alloc (.cells #[(),()] 288)):=((aC _ w).alloc (aB _) _).alloc (by simp) _;obtain ⟨w1,hw1⟩:=dG ((w.alloc (.cells #[Qq A n c,()] 288)).alloc (.cells #[(),()] 288));obtain ⟨t,ht⟩:=dG (w.heap.size+1);obtain ⟨s,yx⟩:=dG w.heap.size;rw [<-hw1] at nE sR dV;rw [<-ht] at sR;rw [<-yx] at nE;have hts:t≠s:=by omega
 have hsw:w.heap.size<=s:=by omega
 have IB:w.heap.size<=t:=by omega
 have yT:=dL hw1;have HT:=dL ht;have HS:=dL yx;have sS:=nE.set_ 1 (.slice none 0 0);have yc:=sR.far (p:=Qc s 1) hts (.slice none 0 0);have dY:=dV.setCell (p:=Qc s 1) hsw (.slice none 0 0);simp only [aH,aF,aG] at sS;obtain ⟨w2,eV⟩:=dG (w1.setCell (Qc s 1) ());rw [<-eV] at sS yc dY;have rH:=dL eV;have c1:=nE.cell 1;simp at c1;have z1:=nE.frozen 1;have CS:=(aM (a:=⟨gp,0,none⟩) (dY.block gp Cm)).trans uE;have k1:({ data:=#[112] }:ByteArray)++bs p=bs (112 :: p):=(dP [112] p);have k3:¬ 9223372036854775807 < 1+p.length:=by omega
 have HI:=dL hi;have gx:=dL hz0;have gJ:=dL hz1;have gT:=dL hz2;have MX:=dL sS;have RN:=dL yc;have HB:=dL dY;clear hi hz0 hz1 hz2 nE sR dV sS yc dY hw1 eV ht yx;have HP1:=dL hp1;have M7:=dL hp2;clear hp1 hp2 uE;go_enter func359,ntmps359;go_upto_region 1 with (fail);rw [<-yT.o,<-HT.o,<-HS.o];go_wp2_with fail;refine (slices_Clone_nil 0 0 _).mono ?_;rintro e w1 ⟨rfl,rfl⟩;go_upto_region 2 with (fail);rw [<-rH.o];clear c1 z1;go_wp2_with fail;refine wp_loop_rounds 2 ?_;rw [rounds_succ];go_wp2_with fail;refine (xF p HP1.o M7.o _).mono ?_;rintro e w2 ⟨rfl,rfl⟩;go_wp2_with fail;refine (aap p s _ _ _ _ MX.o).mono ?_;rintro e w3 ⟨G2,cap2,rfl,R1,BB,oD⟩;have Ca:=dL R1;have Cb:=dL (RN.o.kp oD hts);have eC:=dL (eL HB.o oD (λi hi=>by rw [hi];exact hsw) HB.o.size);have qL:=dL ((dQ.mono (B':=w.heap.size) BB HB.o.size));have abZ:G2≠s:=by have:=(dQ.ge BB G2 rfl).1;have:=MX.o.lt;omega
 have Xi:G2≠t:=by have:=(dQ.ge BB G2 rfl).1;have:=RN.o.lt;omega
 have Xj:G2 < w3.heap.size:=(dQ.ge BB G2 rfl).2;clear R1 BB oD CS MX RN HB HP1 M7;go_wp2_with (at_builtin;refine de _ rfl (.tmp 34) (.tmp 37) 99 99 rfl 9 i0 (.string ⟨#[]⟩) 1 underlying99 HI.o gx.o gJ.o rfl (by decide) rfl _ rfl 1 (by decide) [.string (bs (112 :: p))] (Src.one underlying99 (by simp [go_sem]) rfl) (by decide) (by rw [gT.o];decide) ?_)
 intro MJ w4 hown hb4;have kF:Below w3 w3 w4:=((aC w3 w3).alloc (aB _) _).trans (hb4.mono (by simp));obtain ⟨G3,R2⟩:∃G,G=w3.heap.size+1:=⟨_,rfl⟩;rw [<-R2] at hown;have uC:=dL (Ca.o.below kF Ca.o.lt);have yd:=dL (Cb.o.below kF Cb.o.lt);have fI:=dJ eC kF;have rI:=dL (dQ.below qL.o kF);have HR4:=dL (dQ.mono (B':=w.heap.size) hown (by have:=eC.o.size;omega));have Xk:G3≠s:=by have:=Ca.o.lt;omega
 have Cq:=dL R2;have Xl:G3≠t:=by have:=Cb.o.lt;omega
 have acd:w.heap.size<=G3:=by have:=eC.o.size;omega
 have ace:G2≠G3:=by omega
 clear Xj;clear hown hb4 kF R2 Ca Cb eC qL k1 k3;rw [<-Cq.o];go_wp2_with fail;rw [rounds_succ];go_wp2_with fail;refine wp_loop_rounds 1 ?_;rw [rounds_succ];have Cc:=uC;have oR:=yd;have rD:=fI;have ZO:=rI;have UA:=HR4;clear uC yd fI rI HR4;obtain ⟨w8,Vp⟩:=dG w4;rw [<-Vp] at Cc oR rD ZO UA ⊢;clear Vp;have hGt:G3≠t:=Xl;have s0:=Cc.o.cell 0;have s1:=Cc.o.cell 1;have t0:=oR.o.cell 0;have t1:=oR.o.cell 1;simp at s0 s1 t0 t1;have y0:=oR.o.frozen 0;have y1:=oR.o.frozen 1;have yz:=(oR.o.set_ 0 (.slice A n c)).set_ 1 (.slice (some ⟨G2,0,none⟩) 1 cap2);have r0:=yz.cell 0;have r1:=yz.cell 1;simp only [aH,aF,aG,aO,aT,aZ] at r0 r1;have E0:=dL r0;have E1:=dL r1;clear yz r0 r1;have VW:dm (λi=>i=t) w8 ((w8.setCell t (Qq A n c)).setCell (Qc t 1) (.slice (some ⟨G2,0,none⟩) 1 cap2)):=dw (S:=λi=>i=t) (dw (S:=λi=>i=t) (eT (λi=>i=t) w8) ⟨t,0,none⟩ _ (λ_=>rfl)) ⟨t,1,none⟩ _ (λ_=>rfl);have Jc:=dL VW;clear VW;go_wp2_with fail;exact bodyPost_ret (v:=.tuple #[.agg #[Qq A n c,.slice (some ⟨G2,0,none⟩) 1 cap2],.slice (some ⟨G3,0,none⟩) 1 MJ,qn]) (by simp [results,results359,go_sem,E0.o,E1.o]) rfl ⟨G2,cap2,G3,MJ,rfl,dQ.kp ZO.o Jc.o (λg hg=>by cases hg;exact Xi),dQ.kp UA.o Jc.o (λg hg=>by cases hg;exact hGt),eL rD.o Jc.o (λi hi=>by rw [hi];exact IB) rD.o.size⟩
end
end Go.Proofs.YtgdaahffmcfhpaaGreatDoor
