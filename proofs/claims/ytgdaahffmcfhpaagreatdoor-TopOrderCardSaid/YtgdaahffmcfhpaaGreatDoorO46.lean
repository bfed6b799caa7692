/- Lemmas on the way: La Qa Qb Qc Tp. -/
import Derived.Test.YtgdaahffmcfhpaaGreatDoorO42
set_option maxRecDepth 100000
set_option maxHeartbeats 8000000
namespace Go.Proofs.YtgdaahffmcfhpaaGreatDoor
open aA
open Tryz
section
open Go.RowKit
attribute [local go_sem] dR dO dS dP
def sL (x:dX):Bool:=!decide (((x.nm.length:Nat):Int) > 200) && !decide (((x.mf.length:Nat):Int) > 600)
def Ed (xs:List dX):Bool:=decide (xs.length<=60) && xs.all sL
theorem TP {xs:List dX} (h:Ed xs=true):xs.length<=60:=by
 unfold Ed at h;rw [cO] at h;exact of_decide_eq_true h.1
theorem TQ (A:Option Addr) (n c:Nat) (xs:List dX) (w:World) (hx:mR w A n c xs):
  Calls prog 6 #[Qq A n c] w (dM w (.bool (Ed xs))):=by
 have hn:=hx.len;have lg:=hx.max;have hle:=hx.le;by_cases h60:(n:Int) > 60
 ·have hd:decide ((n:Int) > 60)=true:=decide_eq_true h60
  have hB:Ed xs=false:=by unfold Ed;rw [decide_eq_false (by omega)];rfl
  rw [hB];clear h60 hx hB;go_enter func6,ntmps6;go_wp2_with fail;go_ret;exact ⟨rfl,aC _ _⟩
 have hd:decide ((n:Int) > 60)=false:=decide_eq_false h60;have hB:Ed xs=xs.all sL:=by unfold Ed;rw [decide_eq_true (by omega)];simp
 rw [hB];have HX:=dL hx;clear hx h60 hB;go_enter func6,ntmps6;go_wp2_with fail;go_loopw [3] (λi wr=>∃k:Nat,k<=n/\i=.int .i64 k/\Below w w wr/\dK (∀j (hj:j < xs.length),j < k->sL xs[j]=true)) (λi _=>n - (intOf i).toNat)
 case atStart=>exact ⟨0,by omega,rfl,aC _ _,dL (λj hj h=>by omega)⟩
 case round=>
  obtain ⟨k,hk,rfl,hb,hall⟩:=hrel;rcases aD k n with hlt|hge
  ·have hki:(k:Int) < (n:Int):=by omega
   have hkl:k < xs.length:=by omega
   obtain ⟨b,off,rfl,jW,c0,c1,c2,c3,c4,c5,c6,c7,c8,c9,jX,m1,m2⟩:=mR.at_ (HX.o.below hb) hkl;have hnext:sL xs[k]=true->dK (∀j (hj:j < xs.length),j < k+1->sL xs[j]=true):=λh=>dL (λj hj h1=>by
    rcases aD j k with h2|h2
    ·exact hall.o j hj h2
    ·obtain rfl:j=k:=by omega
     exact h)
   have hstop:sL xs[k]=false->xs.all sL=false:=λh=>by
    rw [List.all_eq_false];exact ⟨xs[k],aa hkl,by rw [h];decide⟩
   have vN:=dL hnext;have Ti:=dL hstop;clear hnext hstop;have hx1:∃x,x=xs[k]:=⟨_,rfl⟩;obtain ⟨x,hx1⟩:=hx1;rw [<-hx1] at c0 c1 c2 c3 c4 c5 c6 c7 c8 c9 jX m1 m2 vN Ti;have IM:sL x=(!decide (((x.nm.length:Nat):Int) > 200) && !decide (((x.mf.length:Nat):Int) > 600)):=rfl;clear hx1;have HB:=dL hb;clear hb;cases e1:decide (((x.nm.length:Nat):Int) > 200) <;> cases e2:decide (((x.mf.length:Nat):Int) > 600);all_goals (rw [e1,e2] at IM;have pK:=dL IM;clear IM)
   all_goals go_wp2_with fail
   all_goals first
    |exact ⟨⟨k+1,by omega,by go_num,HB.o,vN.o pK.o⟩,by simp [intOf];omega⟩
    |(go_ret;exact ⟨by rw [Ti.o pK.o];rfl,HB.o⟩)
  ·have hkn:¬ (k:Int) < (n:Int):=by omega
   have dy:dK (xs.all sL=true):=dL (by
    rw [List.all_eq_true];intro y hy;obtain ⟨j,hj,rfl⟩:=bR.1 hy;exact hall.o j hj (by omega))
   have HB:=dL hb;clear hb hall;go_wp2_with fail;go_ret;exact ⟨by rw [dy.o];rfl,HB.o⟩
structure Rl where
 kind:Int
 txt:By
def rlc (x:Rl):List Value:=[.int .i64 x.kind,.string (bs x.txt)]
def RlC (cs:List Value) (x:Rl):Prop:=cs=rlc x/\x.txt.length<=9223372036854775807
abbrev Ee (w:World) (A:Option Addr) (n c:Nat) (rs:List Rl):Prop:=Sl w 2 RlC A n c rs
variable {xs rs:List Rl} {w W:World} {A:Option Addr} {k n z t:Nat}
theorem Ee.at_ {c:Nat} (h:Ee w A n c xs) (hk:k < xs.length):
  ∃b off,A=some ⟨b,off,none⟩/\b < w.heap.size/\w.cell? ⟨b,off+k*2,none⟩=some (.int .i64 xs[k].kind)/\w.cell? ⟨b,off+k*2+1,none⟩=some (.string (bs xs[k].txt))/\xs[k].txt.length<=9223372036854775807:=by
 obtain ⟨b,off,cs,e,hlt,hl,⟨rfl,hm⟩,hc⟩:=h.4 k hk;exact ⟨b,off,e,hlt,hc 0 _ rfl,hc 1 _ rfl,hm⟩
def mP (x:Rl):Bool:=!decide (((x.txt.length:Nat):Int) > 300)
def uZ (xs:List Rl):Bool:=decide (xs.length<=30) && xs.all mP
theorem PW (h:uZ xs=true):xs.length<=30/\∀x∈xs,x.txt.length<=300:=by
 unfold uZ at h;rw [cO,List.all_eq_true] at h;refine ⟨of_decide_eq_true h.1,λx hx=>?_⟩;have:=h.2 x hx;unfold mP at this;simp at this;omega
theorem yB (A:Option Addr) (n c:Nat) (xs:List Rl) (w:World) (hx:Ee w A n c xs):
  Calls prog 18 #[Qq A n c] w (dM w (.bool (uZ xs))):=by
 have hn:=hx.len;have lg:=hx.max;have hle:=hx.le;by_cases h30:(n:Int) > 30
 ·have hd:decide ((n:Int) > 30)=true:=decide_eq_true h30
  have hB:uZ xs=false:=by unfold uZ;rw [decide_eq_false (by omega)];rfl
  rw [hB];clear h30 hx hB;go_enter func18,ntmps18;go_wp2_with fail;go_ret;exact ⟨rfl,aC _ _⟩
 have hd:decide ((n:Int) > 30)=false:=decide_eq_false h30;have hB:uZ xs=xs.all mP:=by unfold uZ;rw [decide_eq_true (by omega)];simp
 rw [hB];have HX:=dL hx;clear hx h30 hB;go_enter func18,ntmps18;go_wp2_with fail;go_loopw [3] (λi wr=>∃k:Nat,k<=n/\i=.int .i64 k/\Below w w wr/\dK (∀j (hj:j < xs.length),j < k->mP xs[j]=true)) (λi _=>n - (intOf i).toNat)
 case atStart=>exact ⟨0,by omega,rfl,aC _ _,dL (λj hj h=>by omega)⟩
 case round=>
  obtain ⟨k,hk,rfl,hb,hall⟩:=hrel;rcases aD k n with hlt|hge
  ·have hki:(k:Int) < (n:Int):=by omega
   have hkl:k < xs.length:=by omega
   obtain ⟨b,off,rfl,jW,c0,c1,m1⟩:=Ee.at_ (HX.o.below hb) hkl;have hnext:mP xs[k]=true->dK (∀j (hj:j < xs.length),j < k+1->mP xs[j]=true):=λh=>dL (λj hj h1=>by
    rcases aD j k with h2|h2
    ·exact hall.o j hj h2
    ·obtain rfl:j=k:=by omega
     exact h)
   have hstop:mP xs[k]=false->xs.all mP=false:=λh=>by
    rw [List.all_eq_false];exact ⟨xs[k],aa hkl,by rw [h];decide⟩
   have vN:=dL hnext;have Ti:=dL hstop;clear hnext hstop;have hx1:∃x,x=xs[k]:=⟨_,rfl⟩;obtain ⟨x,hx1⟩:=hx1;rw [<-hx1] at c0 c1 m1 vN Ti;have IM:mP x=(!decide (((x.txt.length:Nat):Int) > 300)):=rfl;clear hx1;have HB:=dL hb;clear hb;cases e1:decide (((x.txt.length:Nat):Int) > 300);all_goals (rw [e1] at IM;have pK:=dL IM;clear IM)
   all_goals go_wp2_with fail
   all_goals first
    |exact ⟨⟨k+1,by omega,by go_num,HB.o,vN.o pK.o⟩,by simp [intOf];omega⟩
    |(go_ret;exact ⟨by rw [Ti.o pK.o];rfl,HB.o⟩)
  ·have hkn:¬ (k:Int) < (n:Int):=by omega
   have dy:dK (xs.all mP=true):=dL (by
    rw [List.all_eq_true];intro y hy;obtain ⟨j,hj,rfl⟩:=bR.1 hy;exact hall.o j hj (by omega))
   have HB:=dL hb;clear hb hall;go_wp2_with fail;go_ret;exact ⟨by rw [dy.o];rfl,HB.o⟩
theorem Gv (x:dX) (w:World):(binOp .neq 32 (ov x) (ov x)).run prog w=.ok (.bool false) w:=by
 unfold ov;simp [go_sem]
theorem Lc (A A2:Option Addr) (n c c2:Nat) (xs:List dX) (w:World) (hx:mR w A n c xs) (hy:mR w A2 n c2 xs):
  Calls prog 22 #[Qq A n c,Qq A2 n c2] w (dM w (.bool true)):=by
 have hn:=hx.len;have lg:=hx.max;have hle:=hx.le;have hmy:=hy.max;have abl:=hy.le;have HX:=dL hx;have HY:=dL hy;clear hx hy;go_enter func22,ntmps22;go_wp2_with fail;go_loopw [5] (λi wr=>∃k:Nat,k<=n/\i=.int .i64 k/\Below w w wr) (λi _=>n - (intOf i).toNat)
 case atStart=>exact ⟨0,by omega,rfl,aC _ _⟩
 case round=>
  obtain ⟨k,hk,rfl,hb⟩:=hrel;rcases aD k n with hlt|hge
  ·have hki:(k:Int) < (n:Int):=by omega
   obtain ⟨b,off,rfl,jW,c0,c1,c2,c3,c4,c5,c6,c7,c8,c9,jX,_⟩:=mR.at_ (HX.o.below hb) (by omega:k < xs.length);obtain ⟨b2,off2,rfl,CX,d0,d1,d2,d3,d4,d5,d6,d7,d8,d9,d10,_⟩:=mR.at_ (HY.o.below hb) (by omega:k < xs.length);generalize xs[k]=x at*;have he:=Gv x;unfold ov at he;have HB:=dL hb;clear hb;go_wp2_with fail;go_quiet (fail)
   have ef:=dL (below_drewN HB.o nq);go_wp2_with fail;exact ⟨⟨k+1,by omega,by go_num,ef.o⟩,by simp [intOf];omega⟩
  ·have hkn:¬ (k:Int) < (n:Int):=by omega
   have HB:=dL hb;clear hb;go_wp2_with fail;go_ret;exact ⟨rfl,HB.o⟩
structure Gi where
 it:It
 ghost:Bool
def gc (x:Gi):List Value:=[.string (bs x.it.path),.int .i64 x.it.id.1,.int .i64 x.it.id.2,.bool x.it.dir,.bool x.ghost,.string (bs x.it.mf)]
def gv (x:Gi):Value:=.agg #[x.it.path,x.it.id.1,x.it.id.2,x.it.dir,x.ghost,x.it.mf]
def GiC (cs:List Value) (x:Gi):Prop:=cs=gc x/\x.it.path.length<=9223372036854775807/\x.it.mf.length<=9223372036854775807
abbrev X1 (w:World) (A:Option Addr) (n c:Nat) (xs:List Gi):Prop:=Sl w 6 GiC A n c xs
theorem X1.at_ {c:Nat} {xs:List Gi} (h:X1 w A n c xs) (hk:k < xs.length):
  ∃b off,A=some ⟨b,off,none⟩/\b < w.heap.size/\w.cell? ⟨b,off+k*6,none⟩=some (.string (bs xs[k].it.path))/\w.cell? ⟨b,off+k*6+1,none⟩=some (.int .i64 xs[k].it.id.1)/\w.cell? ⟨b,off+k*6+2,none⟩=some (.int .i64 xs[k].it.id.2)/\
   w.cell? ⟨b,off+k*6+3,none⟩=some (.bool xs[k].it.dir)/\w.cell? ⟨b,off+k*6+4,none⟩=some (.bool xs[k].ghost)/\w.cell? ⟨b,off+k*6+5,none⟩=some (.string (bs xs[k].it.mf)):=by
 obtain ⟨b,off,cs,e,hlt,hl,⟨rfl,_⟩,hc⟩:=h.4 k hk;exact ⟨b,off,e,hlt,hc 0 _ rfl,hc 1 _ rfl,hc 2 _ rfl,hc 3 _ rfl,hc 4 _ rfl,hc 5 _ rfl⟩
theorem Gw (x:Gi) (w:World):(binOp .neq 44 (gv x) (gv x)).run prog w=.ok (.bool false) w:=by
 unfold gv;simp [go_sem]
theorem Ld (A A2:Option Addr) (n c c2:Nat) (xs:List Gi) (w:World) (hx:X1 w A n c xs) (hy:X1 w A2 n c2 xs):
  Calls prog 24 #[Qq A n c,Qq A2 n c2] w (dM w (.bool true)):=by
 have hn:=hx.len;have lg:=hx.max;have hle:=hx.le;have hmy:=hy.max;have abl:=hy.le;have HX:=dL hx;have HY:=dL hy;clear hx hy;go_enter func24,ntmps24;go_wp2_with fail;go_loopw [5] (λi wr=>∃k:Nat,k<=n/\i=.int .i64 k/\Below w w wr) (λi _=>n - (intOf i).toNat)
 case atStart=>exact ⟨0,by omega,rfl,aC _ _⟩
 case round=>
  obtain ⟨k,hk,rfl,hb⟩:=hrel;rcases aD k n with hlt|hge
  ·have hki:(k:Int) < (n:Int):=by omega
   obtain ⟨b,off,rfl,jW,c0,c1,c2,c3,c4,c5⟩:=X1.at_ (HX.o.below hb) (by omega:k < xs.length);obtain ⟨b2,off2,rfl,CX,d0,d1,d2,d3,d4,d5⟩:=X1.at_ (HY.o.below hb) (by omega:k < xs.length);generalize xs[k]=x at*;have he:=Gw x;unfold gv at he;have HB:=dL hb;clear hb;go_wp2_with fail;go_quiet (fail)
   have ef:=dL (below_drewN HB.o nq);go_wp2_with fail;exact ⟨⟨k+1,by omega,by go_num,ef.o⟩,by simp [intOf];omega⟩
  ·have hkn:¬ (k:Int) < (n:Int):=by omega
   have HB:=dL hb;clear hb;go_wp2_with fail;go_ret;exact ⟨rfl,HB.o⟩
def lV (t:By):Int:=if t ==[46] then -1 else (t.length:Int)
theorem yC (x:Rl) (w:World):Calls prog 242 #[.agg #[x.kind,x.txt]] w (dM w (.int .i64 (lV x.txt))):=by
 have dV:=dH w (.cells #[x.kind,x.txt] 113);have hq:=Blk.new w 113 #[x.kind,x.txt];obtain ⟨w1,hw1⟩:=dG (w.alloc (.cells #[x.kind,x.txt] 113));obtain ⟨q,iC⟩:=dG w.heap.size;rw [<-hw1] at hq dV;rw [<-iC] at hq;have a1:=hq.cell 1;simp only [aO,aT,aZ] at a1;have hL:dK (lV x.txt=if (x.txt ==[46])=true then -1 else (x.txt.length:Int)):=dL rfl;have HW:=dL hw1;have HQ:=dL iC;have HB:=dL dV;clear hw1 iC hq dV;cases e0:(x.txt ==[46]) with
 |true=>
  rw [e0] at hL;go_enter func242,ntmps242;go_upto_region 1 with (fail);rw [<-HW.o,<-HQ.o];go_wp2_with fail;go_ret;exact ⟨by rw [hL.o];rfl,HB.o⟩
 |false=>
  rw [e0] at hL;go_enter func242,ntmps242;go_upto_region 1 with (fail);rw [<-HW.o,<-HQ.o];go_wp2_with fail;go_ret;exact ⟨by rw [hL.o];rfl,HB.o⟩
def PX (p:By) (x:Rl):Bool:=((x.kind != 1) && (x.kind != 2)) || !withinB p x.txt
def vo (best x:Rl):Bool:=(best.kind ==0) || (decide (lV x.txt - lV best.txt > 0) || ((lV x.txt - lV best.txt ==0) && (x.kind ==2)))
def Gx (p:By) (best x:Rl):Rl:=if PX p x then best else if vo best x then x else best
def yD (p:By) (rs:List Rl):Rl:=rs.foldl (Gx p) ⟨0,[]⟩
theorem Le(p:By) (hk:k < rs.length):yD p (rs.take (k+1))=Gx p (yD p (rs.take k)) rs[k]:=by
 unfold yD;rw [ay hk,List.foldl_append];rfl
theorem vt (t:By):-1<=lV t/\lV t<=(t.length:Int):=by unfold lV;split <;> omega
structure X2 (w W:World) (z t:Nat) (best:Rl):Prop where
 b:Below w w W
 z_:Blk W z 113 #[qn,yj]
 t_:Blk W t 113 #[best.kind,best.txt]
theorem X2.later{W':World} {best:Rl} (h:X2 w W z t best) (hb:Below W W W'):X2 w W' z t best:=⟨h.b.trans (hb.mono h.b.size),h.z_.below hb h.z_.lt,h.t_.below hb h.t_.lt⟩
structure Z3 (w W:World) (z t q:Nat) (best x:Rl):Prop where
 d:X2 w W z t best
 q_:Blk W q 113 #[x.kind,x.txt]
theorem Z3.later {w W W':World} {z t q:Nat} {best x:Rl} (h:Z3 w W z t q best x) (hb:Below W W W'):Z3 w W' z t q best x:=⟨h.d.later hb,h.q_.below hb h.q_.lt⟩
theorem Z3.cells {q:Nat} {best x:Rl} (h:Z3 w W z t q best x):W.cell? q=x.kind/\W.cell? (Qc q 1)=x.txt/\W.cell? t=best.kind/\W.cell? (Qc t 1)=best.txt:=⟨h.q_.cell 0,h.q_.cell 1,h.d.t_.cell 0,h.d.t_.cell 1⟩
theorem Ef (p:By) (rs:List Rl) (A:Option Addr) (n c:Nat) (w:World) (hx:Ee w A n c rs) (hs:∀x∈rs,x.txt.length<=300):
  Calls prog 165 #[Qq A n c,p] w (dM w (.agg #[.int .i64 (yD p rs).kind,.string (bs (yD p rs).txt)])):=by
 have hn:=hx.len;have lg:=hx.max;have hle:=hx.le;have hz2:Blk ((w.alloc (.cells #[qn,yj] 113)).alloc (.cells #[qn,yj] 113)) w 113 #[qn,yj]:=(Blk.new w 113 _).alloc _;have ht2:Blk ((w.alloc (.cells #[qn,yj] 113)).alloc (.cells #[qn,yj] 113)) (w.heap.size+1) 113 #[qn,yj]:=by
  have:=Blk.new (w.alloc (.cells #[qn,yj] 113)) 113 #[qn,yj]
  rwa [show (w.alloc (.cells #[qn,yj] 113)).heap.size=w.heap.size+1 from ai _] at this
 have dY:Below w w ((w.alloc (.cells #[qn,yj] 113)).alloc (.cells #[qn,yj] 113)):=((aC _ w).alloc (aB _) _).alloc (by simp) _;obtain ⟨w2,eV⟩:=dG ((w.alloc (.cells #[qn,yj] 113)).alloc (.cells #[qn,yj] 113));obtain ⟨t,ht⟩:=dG (w.heap.size+1);obtain ⟨z,hz⟩:=dG w.heap.size;rw [<-eV] at hz2 ht2 dY;rw [<-ht] at ht2;rw [<-hz] at hz2;have UI:z≠t:=by omega
 have hzw:w.heap.size<=z:=by omega
 have IB:w.heap.size<=t:=by omega
 have H2:dK (X2 w w2 z t ⟨0,[]⟩):=dL ⟨dY,hz2,ht2⟩;have HX:=dL hx;have HS:=dL hs;have rH:=dL eV;have HT:=dL ht;have HZ:=dL hz;have HZT:=dL UI;have HZW:=dL hzw;have HTW:=dL IB;clear hz2 ht2 dY eV ht hz hx hs UI hzw IB;go_enter func165,ntmps165;go_upto_region 2 with (fail);rw [<-HT.o,<-HZ.o,<-rH.o];go_wp2_with fail;go_loopw [11] (λi wr=>∃(k:Nat) (best:Rl),k<=n/\i=.int .i64 k/\dK (X2 w wr z t best)/\dK (best=yD p (rs.take k))/\dK (best.txt.length<=300)) (λi _=>n - (intOf i).toNat)
 case atStart=>exact ⟨0,⟨0,[]⟩,by omega,rfl,H2,dL rfl,dL (by simp)⟩
 case round=>
  obtain ⟨k,best,hk,rfl,HD,HBt,oO⟩:=hrel;rcases aD k n with hlt|hge
  ·have hki:(k:Int) < (n:Int):=by omega
   have hkl:k < rs.length:=by omega
   obtain ⟨b,off,rfl,jW,c0,c1,-⟩:=Ee.at_ (HX.o.below HD.o.b) hkl;have vN:dK (yD p (rs.take (k+1))=Gx p best rs[k]):=dL (by rw [Le p hkl,<-HBt.o]);have HXl:=dL (HS.o _ (aa hkl));generalize rs[k]=x at*;have jG:=Blk.new wr 113 #[x.kind,x.txt];have dn:=dH wr (.cells #[x.kind,x.txt] 113);obtain ⟨w3,jD⟩:=dG (wr.alloc (.cells #[x.kind,x.txt] 113));obtain ⟨q,hq⟩:=dG wr.heap.size;rw [<-jD] at jG dn;rw [<-hq] at jG;have hqt:q≠t:=by have:=HD.o.t_.lt;omega
   have H3:dK (Z3 w w3 z t q best x):=dL ⟨HD.o.later dn,jG⟩;have rB:=dL jD;have HQ:=dL hq;have HQT:=dL hqt;have HWi:=dL (λw=>qp p x.txt (by have:=HXl.o;omega) w);have Hz:dK (PX p x=(((x.kind != 1) && (x.kind != 2)) || !withinB p x.txt)):=dL rfl;have rG:dK (vo best x=((best.kind ==0) || (decide (lV x.txt - lV best.txt > 0) || ((lV x.txt - lV best.txt ==0) && (x.kind ==2))))):=dL rfl;have HLx:=dL (λw=>yC x w);have HLb:=dL (λw=>yC best w);have hwr:IntKind.i64.wrap (lV x.txt - lV best.txt)=lV x.txt - lV best.txt:=IntWalk.i64_in _ (by have:=vt x.txt;have:=vt best.txt;have:=HXl.o;have:=oO.o;omega);have acD:wrap64 (lV x.txt - lV best.txt)=lV x.txt - lV best.txt:=IntWalk.wrap64_in _ (by have:=vt x.txt;have:=vt best.txt;have:=HXl.o;have:=oO.o;omega);generalize withinB p x.txt=wi at*;generalize lV x.txt=lx at*;generalize lV best.txt=lb at*;obtain ⟨D,hD⟩:=dG (lx - lb);rw [<-hD] at rG;have afr:IntKind.i64.wrap (lx - lb)=D:=by rw [hwr,hD]
   have afs:wrap64 (lx - lb)=D:=by rw [acD,hD]
   clear hD hwr acD;clear jG dn jD hq hqt;have h3:((x.kind != 1)=true/\(x.kind != 2)=true)\/((x.kind != 1)=false)\/((x.kind != 1)=true/\(x.kind != 2)=false):=by
    cases x.kind != 1 <;> cases x.kind != 2 <;> simp
   rcases h3 with ⟨f1,f2⟩|f1| ⟨f1,f2⟩
   ·rw [f1,f2] at Hz
    go_upto_region 5 with (fail);rw [<-HQ.o,<-rB.o];clear c0 c1;obtain ⟨a0,a1,-,-⟩:=H3.o.cells;go_wp2_with fail;exact ⟨⟨k+1,best,by omega,by go_num,dL H3.o.d,dL (by rw [vN.o];unfold Gx;rw [Hz.o];rfl),oO⟩,by simp [intOf];omega⟩
   all_goals
    rw [f1] at Hz;try rw [f2] at Hz
    go_upto_region 5 with (fail);rw [<-HQ.o,<-rB.o];clear c0 c1;obtain ⟨a0,a1,-,-⟩:=H3.o.cells;go_wp2_with fail;refine (HWi.o _).mono ?_;rintro e w4 ⟨rfl,hb⟩;have H4:=dL (H3.o.later hb);clear hb a0 a1 H3;cases wi with
    |false=>
     go_wp2_with fail;exact ⟨⟨k+1,best,by omega,by go_num,dL H4.o.d,dL (by rw [vN.o];unfold Gx;rw [Hz.o];simp),oO⟩,by simp [intOf];omega⟩
    |true=>
     have acE:dK (PX p x=false):=dL (by rw [Hz.o];simp);clear f1 Hz;obtain ⟨a0,a1,a2,a3⟩:=H4.o.cells;have m0:=λx1:eE w4=>x1.cell a0
     have m1:=λx1:eE w4=>x1.cell a1
     have m2:=λx1:eE w4=>x1.cell a2
     have m3:=λx1:eE w4=>x1.cell a3
     go_upto_region 6 with (fail);refine eo (by kernel_rfl) (by kernel_rfl) ?_;repeat (go_big_quiet_step ((go_at_call 242;with_reducible first|exact gX (HLx.o _)|exact gX (HLb.o _))))
     refine wpQuiet_nil ?_;clear m0 m1 m2 m3 a0 a1 a2 a3;rintro _ ⟨x1,rfl⟩;have H5:=dL (H4.o.later x1.below);generalize x1.wd=w5 at*;clear x1 H4 afr afs;obtain ⟨a0,a1,a2,a3⟩:=H5.o.cells;have hcs:(((best.kind ==0)=false/\decide (D > 0)=false/\(D ==0)=false)\/((best.kind ==0)=false/\decide (D > 0)=false/\(D ==0)=true/\(x.kind ==2)=false))\/(((best.kind ==0)=true)\/((best.kind ==0)=false/\decide (D > 0)=true)\/((best.kind ==0)=false/\decide (D > 0)=false/\(D ==0)=true/\(x.kind ==2)=true)):=by
      cases best.kind ==0 <;> cases decide (D > 0) <;> cases D ==0 <;> cases x.kind ==2 <;> simp
     rcases hcs with hno|hyes
     ·rcases hno with ⟨g1,g2,g3⟩| ⟨g1,g2,g3,g4⟩
      all_goals
       rw [g1,g2,g3] at rG;try rw [g4] at rG
       have HBf:dK (vo best x=false):=dL (by rw [rG.o];rfl);go_wp2_with fail;exact ⟨⟨k+1,best,by omega,by go_num,dL H5.o.d,dL (by rw [vN.o];unfold Gx;rw [acE.o,HBf.o];rfl),oO⟩,by simp [intOf];omega⟩
     rcases hyes with g1| ⟨g1,g2⟩| ⟨g1,g2,g3,g4⟩
     all_goals
      have HBf:dK (vo best x=true):=dL (by rw [rG.o];simp_all);have l0:=H5.o.d.t_.frozen 0;have l1:=H5.o.d.t_.frozen 1;have k7:dm (λi=>i=t) w5 ((w5.setCell t x.kind).setCell (Qc t 1) x.txt):=dw (S:=λi=>i=t) (dw (S:=λi=>i=t) (eT (λi=>i=t) w5) ⟨t,0,none⟩ _ (λ_=>rfl)) ⟨t,1,none⟩ _ (λ_=>rfl);have Xv:=(H5.o.d.t_.set_ 0 (.int .i64 x.kind)).set_ 1 (.string (bs x.txt));simp only [aH,aF,aG] at Xv;have hz7:=H5.o.d.z_.kp k7 HZT.o;have lq:=eL H5.o.d.b k7 (λi hi=>by rw [hi];exact HTW.o) H5.o.d.b.size;have H7:dK (X2 w ((w5.setCell t x.kind).setCell (Qc t 1) x.txt) z t x):=dL ⟨lq,hz7,Xv⟩;obtain ⟨w7,mQ⟩:=dG ((w5.setCell t x.kind).setCell (Qc t 1) x.txt);rw [<-mQ] at H7;have FW:=dL mQ;clear k7 Xv mQ hz7 lq;go_upto_region 9 with (fail);rw [<-FW.o];clear a0 a1 a2 a3 l0 l1;go_wp2_with fail;exact ⟨⟨k+1,x,by omega,by go_num,H7,dL (by rw [vN.o];unfold Gx;rw [acE.o,HBf.o];rfl),HXl⟩,by simp [intOf];omega⟩
  ·have hkn:¬ (k:Int) < (n:Int):=by omega
   have Jb:dK (yD p rs=best):=dL (by rw [HBt.o,af (by omega)]);have a0:=HD.o.t_.cell 0;have a1:=HD.o.t_.cell 1;have b0:=HD.o.z_.cell 0;have b1:=HD.o.z_.cell 1;have g0:=HD.o.z_.frozen 0;have g1:=HD.o.z_.frozen 1;simp only [aO,aT,aZ] at a0 a1 b0 b1;have k8:dm (λi=>i=z) wr ((wr.setCell z best.kind).setCell (Qc z 1) best.txt):=dw (S:=λi=>i=z) (dw (S:=λi=>i=z) (eT (λi=>i=z) wr) ⟨z,0,none⟩ _ (λ_=>rfl)) ⟨z,1,none⟩ _ (λ_=>rfl);have Xw:=(HD.o.z_.set_ 0 (.int .i64 best.kind)).set_ 1 (.string (bs best.txt));have d0:=Xw.cell 0;have d1:=Xw.cell 1;simp at d0 d1;have rD:=dL (eL HD.o.b k8 (λi hi=>by rw [hi];exact HZW.o) HD.o.b.size);clear k8 Xw;go_wp2_with fail;exact bodyPost_ret (v:=.agg #[best.kind,best.txt]) (by simp [results,results165,go_sem,d0,d1]) rfl ⟨by rw [Jb.o],rD.o⟩
def gR {α:Type} (p:α->Bool) (xs:List α):Int:=match xs.findIdx? p with
 |some k=>k
 |none=>-1
theorem tc{α:Type} {p:α->Bool} {xs:List α} (hk:k < xs.length) (h:p xs[k]=true) (ha:∀j (hj:j < xs.length),j < k->p xs[j]=false):gR p xs=k:=by
 have:xs.findIdx? p=some k:=au.2 ⟨hk,h,λj hj=>by rw [ha j (by omega) hj];decide⟩;unfold gR;rw [this]
theorem pI {α:Type} {p:α->Bool} {xs:List α} (ha:∀j (hj:j < xs.length),p xs[j]=false):gR p xs= -1:=by
 have:xs.findIdx? p=none:=bK.2 λx hx=>by
  obtain ⟨j,hj,rfl⟩:=bR.1 hx;exact ha j hj
 unfold gR;rw [this]
theorem yE {α:Type} (p:α->Bool) (xs:List α):decide (gR p xs≥0)=xs.any p:=by
 unfold gR;cases h:xs.findIdx? p with
 |none=>
  have hn:=bK.1 h;have:xs.any p=false:=List.any_eq_false.2 λx hx=>by rw [hn x hx];decide
  rw [this];decide
 |some k=>
  obtain ⟨hk,hp,_⟩:=au.1 h;have:xs.any p=true:=List.any_eq_true.2 ⟨_,aa hk,hp⟩;rw [this];exact decide_eq_true (by show (0:Int)<=k;omega)
def td (x:Rl):Bool:=x.kind ==3
theorem Gy (x:Rl) (w:World):Calls prog 167 #[.agg #[x.kind,x.txt]] w (dM w (.bool (td x))):=by
 have dV:=dH w (.cells #[x.kind,x.txt] 113);have hq:=Blk.new w 113 #[x.kind,x.txt];obtain ⟨w1,hw1⟩:=dG (w.alloc (.cells #[x.kind,x.txt] 113));obtain ⟨q,iC⟩:=dG w.heap.size;rw [<-hw1] at hq dV;rw [<-iC] at hq;have a0:=hq.cell 0;simp only [aO,aT] at a0;have hT:dK (td x=(x.kind ==3)):=dL rfl;have HW:=dL hw1;have HQ:=dL iC;have HB:=dL dV;clear hw1 iC hq dV;go_enter func167,ntmps167;go_upto_region 1 with (fail);rw [<-HW.o,<-HQ.o];go_wp2_with fail;go_ret;exact ⟨by rw [hT.o];rfl,HB.o⟩
theorem Lf:∀args w,(callFunc 167 args).run prog w=.ok (.enter 167 args) w:=enters_of func167 (by decide) rfl
theorem PY (A:Option Addr) (n c:Nat) (xs:List Rl) (w:World) (hx:Ee w A n c xs):
  Calls prog 243 #[Qq A n c,.func (.func 167) #[] #[]] w (dM w (.int .i64 (gR td xs))):=by
 have hn:=hx.len;have lg:=hx.max;have hle:=hx.le;have eg:=Lf;have HX:=dL hx;clear hx;go_enter func243,ntmps243;go_wp2_with fail;go_loopw [8] (λi wr=>∃k:Nat,k<=xs.length/\i=.int .i64 k/\Below w w wr/\∀j (hj:j < xs.length),j < k->td xs[j]=false) (λi _=>xs.length - (intOf i).toNat)
 case atStart=>exact ⟨0,by omega,rfl,aC _ _,λj _ h=>by omega⟩
 case round=>
  obtain ⟨k,hk,rfl,hb,hall⟩:=hrel;rcases aD k xs.length with hlt|hge
  ·obtain ⟨b,off,rfl,jW,c0,c1,CP⟩:=Ee.at_ (HX.o.below hb) hlt
   have HA:=dL hall;have wB:=dL (Gy xs[k] wr);obtain ⟨x,hx⟩:∃x,xs[k]=x:=⟨_,rfl⟩;rw [hx] at c0 c1 wB;have nB:=dL hx;have HB:=dL hb;have hki:(k:Int) < (n:Int):=by omega
   clear hall hx hb CP;go_wp2_with fail;refine wB.o.mono ?_;rintro e w2 ⟨rfl,dY⟩;have dn:=HB.o.trans (dY.mono HB.o.size);cases hc:td x with
   |true=>
    go_wp2_with fail;have dy:gR td xs=k:=tc hlt (by rw [nB.o];exact hc) HA.o;go_ret;exact ⟨by rw [dy];rfl,dn⟩
   |false=>
    go_wp2_with fail;exact ⟨⟨k+1,by omega,by go_num,dn,λj hj hjk=>by
     by_cases e:j=k
     ·subst e;rw [nB.o];exact hc
     ·exact HA.o j hj (by omega)⟩,by simp [intOf];omega⟩
  ·have hkn:¬ (k:Int) < (n:Int):=by omega
   have dy:gR td xs= -1:=pI λj hj=>hall j hj (by omega)
   clear hall;go_wp2_with fail;go_ret;exact ⟨rfl,hb⟩
theorem Lg (A:Option Addr) (n c:Nat) (xs:List Rl) (w:World) (hx:Ee w A n c xs):
  Calls prog 166 #[Qq A n c,.func (.func 167) #[] #[]] w (dM w (.bool (xs.any td))):=by
 have HI:=dL (PY A n c xs w hx);have HF:=dL (yE td xs);generalize gR td xs=f at*;clear hx;go_enter func166,ntmps166;go_wp2_with fail;refine HI.o.mono ?_;rintro e w2 ⟨rfl,hb⟩;have HB:=dL hb;clear hb;go_wp2_with fail;go_ret;exact ⟨by rw [<-HF.o];rfl,HB.o⟩
def Lh (x y:Rl):Bool:=(x.kind ==y.kind) && (x.txt ==y.txt)
theorem Gz (x y:Rl) (w:World):(binOp .eql 113 (.agg #[x.kind,x.txt]) (.agg #[y.kind,y.txt])).run prog w=.ok (.bool (Lh x y)) w:=by
 unfold Lh;by_cases h1:x.kind=y.kind <;> by_cases h2:x.txt=y.txt <;> simp [go_sem,h1,h2]
theorem PZ (s:Rl) (A:Option Addr) (n c:Nat) (xs:List Rl) (w:World) (hx:Ee w A n c xs):
  Calls prog 244 #[Qq A n c,.agg #[s.kind,s.txt]] w (dM w (.int .i64 (gR (Lh s) xs))):=by
 have dV:=dH w (.cells #[s.kind,s.txt] 113);have hB:=Blk.new w 113 #[s.kind,s.txt];have q0:=hB.cell 0;have q1:=hB.cell 1;simp only [aO,aT,aZ] at q0 q1;have hx1:=hx.below dV;have hn:=hx.len;have lg:=hx.max;have hle:=hx.le;obtain ⟨w1,hw1⟩:=dG (w.alloc (.cells #[s.kind,s.txt] 113));rw [<-hw1] at hB dV hx1 q0 q1;have HW:=dL hw1;have HX:=dL hx1;have HB:=dL dV;obtain ⟨B,uo⟩:=dG w.heap.size;have gH:=eB q0;rw [<-uo] at q0 q1 gH;have rG:=dL uo;have XH:=dL q0;have wA:=dL q1;clear hw1 hx1 dV hB hx uo q0 q1;go_enter func244,ntmps244;go_wp2_with fail;rw [<-HW.o,<-rG.o];go_loopw [8] (λi wr=>∃k:Nat,k<=xs.length/\i=.int .i64 k/\Below w1 w1 wr/\∀j (hj:j < xs.length),j < k->Lh s xs[j]=false) (λi _=>xs.length - (intOf i).toNat)
 case atStart=>exact ⟨0,by omega,rfl,aC _ _,λj _ h=>by omega⟩
 case round=>
  obtain ⟨k,hk,rfl,hb,hall⟩:=hrel;have nI:=HB.o.trans (hb.mono HB.o.size);rcases aD k xs.length with hlt|hge
  ·obtain ⟨b,off,rfl,jW,c0,c1,-⟩:=Ee.at_ (HX.o.below hb) hlt
   have q0:=dU hb gH XH.o;have q1:=dU hb gH wA.o;have HA:=dL hall;obtain ⟨x,hx⟩:∃x,xs[k]=x:=⟨_,rfl⟩;rw [hx] at c0 c1;have he:=Gz s x;have nB:=dL hx;have fI:=dL hb;have hki:(k:Int) < (n:Int):=by omega
   clear hall hx hb;cases hc:Lh s x with
   |true=>
    rw [hc] at he;go_wp2_with fail;go_quiet (fail)
    have ef:=dL (below_drewN nI nq);go_wp2_with fail;have dy:gR (Lh s) xs=k:=tc hlt (by rw [nB.o];exact hc) HA.o;go_ret;exact ⟨by rw [dy];rfl,ef.o⟩
   |false=>
    rw [hc] at he;go_wp2_with fail;go_quiet (fail)
    have ef:=dL (below_drewN fI.o nq);go_wp2_with fail;exact ⟨⟨k+1,by omega,by go_num,ef.o,λj hj hjk=>by
     by_cases e:j=k
     ·subst e;rw [nB.o];exact hc
     ·exact HA.o j hj (by omega)⟩,by simp [intOf];omega⟩
  ·have hkn:¬ (k:Int) < (n:Int):=by omega
   have dy:gR (Lh s) xs= -1:=pI λj hj=>hall j hj (by omega)
   clear hall;go_wp2_with fail;go_ret;exact ⟨rfl,nI⟩
theorem Eg (s:Rl) (A:Option Addr) (n c:Nat) (xs:List Rl) (w:World) (hx:Ee w A n c xs):
  Calls prog 168 #[Qq A n c,.agg #[s.kind,s.txt]] w (dM w (.bool (xs.any (Lh s)))):=by
 have dV:=dH w (.cells #[s.kind,s.txt] 113);have HI:=dL (PZ s A n c xs _ (hx.below dV));have HB:=dL dV;have HF:=dL (yE (Lh s) xs);generalize gR (Lh s) xs=f at*;clear dV hx;go_enter func168,ntmps168;go_wp2_with fail;refine HI.o.mono ?_;rintro e w2 ⟨rfl,dY⟩;have dn:=dJ HB dY;clear dY;go_wp2_with fail;go_ret;exact ⟨by rw [<-HF.o];rfl,dn.o⟩
def qV (s:By):Int:=Lib.lastIndexByte (bs s) 47
def ua (s:By):By:=s.drop (qV s+1).toNat
theorem Pa (s:By):-1<=qV s/\qV s+1<=(s.length:Int):=by
 unfold qV;rcases Lib.lastIndexByte_spec (bs s) 47 with ⟨h1,-⟩| ⟨i,h1,h2,-⟩
 ·rw [h1];omega
 ·rw [h2];rw [dR] at h1;omega
def jS (rs:List Rl) (p:By) (dir:Bool):Bool:=
 if (yD p rs).kind != 1 then false else if dir || !(rs.any td) then true else rs.any (Lh ⟨3,gu (ua p)⟩)
theorem Li (rs:List Rl) (p:By) (dir:Bool) (A:Option Addr) (n c:Nat) (w:World) (hx:Ee w A n c rs) (hs:∀x∈rs,x.txt.length<=300) (hp:p.length<=1000000):
  Calls prog 112 #[Qq A n c,p,dir] w (dM w (.bool (jS rs p dir))):=by
 have HD:=dL (Ef p rs A n c w hx hs);have HM:dK (jS rs p dir=if (yD p rs).kind != 1 then false else if dir || !(rs.any td) then true else rs.any (Lh ⟨3,gu (ua p)⟩)):=dL rfl;generalize yD p rs=d at*;obtain ⟨dk,dt⟩:=d;dsimp only at HD HM;have HT:=dL (λw' (hb:Below w.heap.size w w')=>Lg A n c rs w' (hx.below hb));have HC:=dL (λw' (hb:Below w.heap.size w w')=>Eg ⟨3,gu (ua p)⟩ A n c rs w' (hx.below hb));have hL:=λw=>strings_LastIndexByte (bs p) 47 (by rw [dR];omega) w
 have hE:=λw=>BP (ua p) (by unfold ua;rw [ah];omega) w
 obtain ⟨ue,tu⟩:=Pa p;have hts:ua p=p.drop (qV p+1).toNat:=rfl;change ∀w,Calls prog 170 #[p,.int .u8 47] w λe w'=>e=.returned (.int .i64 (qV p))/\w'=w at hL
 obtain ⟨m,hm⟩:∃m:Nat,qV p+1=(m:Int):=⟨(qV p+1).toNat,by omega⟩;have hmp:m<=p.length:=by omega
 have hwr:IntKind.i64.wrap (qV p+1)=(m:Int):=by rw [hm];exact IntWalk.i64_in _ (by omega)
 have hx2:(bs p).extract m p.length=bs (ua p):=by
  rw [hts,hm,fM,af (by simp)];rfl
 have nB:=dL hx2;have HL:=dL hL;have HE:=dL hE;generalize qV p=li at*;generalize rs.any td=ty at*;generalize ua p=tp at*;generalize gu tp=ex at*;generalize rs.any (Lh ⟨3,ex⟩)=ans at*;have UJ:∀w1,(Instr.field 113 (.agg #[dk,dt]) 0).run prog w1=.ok (.int .i64 dk) w1:=λw1=>by rfl
 have Tc:(m:Int)<=(p.length:Int):=by omega
 clear hx hs hx2 hL hE ue tu hts hm hmp;cases hk:(dk != 1) with
 |true=>
  rw [hk] at HM;go_enter func112,ntmps112;go_wp2_with fail;refine HD.o.mono ?_;rintro e w1 ⟨rfl,hb⟩;have HB:=dL hb;clear hb;go_wp2_with fail;go_ret;exact ⟨by rw [HM.o];rfl,HB.o⟩
 |false=>
  rw [hk] at HM;cases hd:(dir || !ty) with
  |true=>
   rw [hd] at HM;have F7:dK (jS rs p dir=true):=dL (by rw [HM.o];rfl);go_enter func112,ntmps112;go_wp2_with fail;refine HD.o.mono ?_;rintro e w1 ⟨rfl,hb⟩;have HB:=dL hb;clear hb;go_wp2_with fail;refine (HT.o _ HB.o).mono ?_;rintro e w2 ⟨rfl,hb⟩;have eA:=dJ HB hb;clear hb UJ hwr;cases dir
   ·cases ty
    ·clear hd
     go_wp2_with fail;go_ret;exact ⟨by rw [F7.o];rfl,eA.o⟩
    ·cases hd
   ·clear hd
    go_wp2_with fail;go_ret;exact ⟨by rw [F7.o];rfl,eA.o⟩
  |false=>
   rw [hd] at HM;have F7:dK (jS rs p dir=ans):=dL (by rw [HM.o];rfl);obtain rfl:dir=false:=by cases dir;rfl;cases hd
   obtain rfl:ty=true:=by cases ty;cases hd;rfl
   clear hd;go_enter func112,ntmps112;go_wp2_with fail;refine HD.o.mono ?_;rintro e w1 ⟨rfl,hb⟩;have HB:=dL hb;clear hb;go_wp2_with fail;refine (HT.o _ HB.o).mono ?_;rintro e w2 ⟨rfl,hb⟩;have eA:=dJ HB hb;clear hb UJ;go_wp2_with fail;refine (HL.o _).mono ?_;rintro e w3 ⟨rfl,rfl⟩;have hx2:=nB.o;go_wp2_with fail;refine (HE.o _).mono ?_;rintro e w4 ⟨rfl,rfl⟩;go_wp2_with fail;refine (HC.o _ eA.o).mono ?_;rintro e w5 ⟨rfl,hb⟩;have fk:=dJ eA hb;clear hb;go_wp2_with fail;go_ret;exact ⟨by rw [F7.o];rfl,fk.o⟩
end
section
open Go.RowKit
variable {x:dX}
theorem yF (h:sG x=0):rightS x.st=true/\C0 x=false/\shapedB x=true:=by
 unfold sG at h;cases h1:rightS x.st <;> cases h2:seqB x <;> cases h3:C0 x <;> cases h4:shapedB x <;> simp [h1,h2,h3,h4] at h ⊢
theorem JL (h:sG x=0) (hk:x.kind=1\/x.kind=2):rightN x.nm=true:=by
 obtain ⟨_,h2,_⟩:=yF h;unfold C0 at h2;have:(decide (x.kind=1) || decide (x.kind=2))=true:=by simpa using hk
 rw [this,Bool.true_and] at h2;simpa using h2
def Pb (L:List dX):Prop:=∀x∈L,sG x=0
def Lj (xs:List Nd):Prop:=∀n∈xs,rightN n.nm=true
theorem X3{xs:List Nd} (h:Lj xs) (hx:sG x=0):Lj (uI xs x):=by
 rcases Tr.doN_cases xs x with e| ⟨y,_,hk,_,hyd,e⟩| ⟨k,hk,_,hk1,ht,e⟩
 ·rw [e];exact h
 ·rw [e]
  intro z hz;rcases Tr.mem_grow_cases hz with rfl|hz
  ·rw [hyd];exact JL hx (.inl hk)
  ·exact h z hz
 ·rw [e]
  intro z hz;rcases List.mem_or_eq_of_mem_set hz with hz|rfl
  ·exact h z hz
  ·have hm:=h _ (aa hk)
   unfold jb at ht ⊢;by_cases h2:x.kind=2
   ·rw [if_pos h2];exact JL hx (.inr h2)
   ·rw [if_neg h2]
    by_cases h3:x.kind=3
    ·rw [if_pos h3];exact hm
    ·rw [if_neg h3]
     by_cases h4:x.kind=4
     ·rw [if_pos h4];exact hm
     ·rw [if_neg h4];exact hm
theorem Pc {L:List dX} (h:Pb L):Lj (fL L):=by
 have:∀(l:List dX) (xs:List Nd),Lj xs->Pb l->Lj (l.foldl uI xs):=by
  intro l;induction l with
  |nil=>intro xs h _;exact h
  |cons x l ih=>intro xs h hl;exact ih _ (X3 h (hl x List.mem_cons_self)) (λy hy=>hl y (List.mem_cons_of_mem _ hy))
 exact this L [] (λ_ h=>absurd h bH) h
theorem Pd (L:List dX):(fL L).length<=L.length:=by
 rw [(xl L).length_eq];exact pW L
end
end Go.Proofs.YtgdaahffmcfhpaaGreatDoor
