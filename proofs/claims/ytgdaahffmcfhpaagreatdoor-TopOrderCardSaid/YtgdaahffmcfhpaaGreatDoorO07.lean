/- Lemmas on the way: VTa Ki. -/
import Derived.Deep.RegionHeld3
import Derived.Deep.RegionLaw
import Derived.Lib.SliceRun
import Derived.Test.YtgdaahffmcfhpaaGreatDoorO02
set_option maxRecDepth 100000
set_option maxHeartbeats 8000000
namespace Go.Proofs.YtgdaahffmcfhpaaGreatDoor
open aA
open Tryz
section
open Go.RowKit
attribute [local go_sem] dR dO dS dP
variable {w:World}
theorem cell?_alloc_old {g i:Nat} {u:Value} (h:w.cell? (Qc g i)=some u) (o:Obj):(w.alloc o).cell? (Qc g i)=some u:=by
 rw [dB _ _ _ (eB h)];exact h
abbrev St:=Int×Int
structure Nd where
 id:St
 dir:Bool
 par:St
 nm:List UInt8
 mf:List UInt8
deriving DecidableEq
instance:Inhabited Nd:=⟨⟨(0,0),false,(0,0),[],[]⟩⟩
def nd0:Nd:=⟨(0,0),false,(0,0),[],[]⟩
def nc (x:Nd):List Value:=[.int .i64 x.id.1,.int .i64 x.id.2,.bool x.dir,.int .i64 x.par.1,.int .i64 x.par.2,.string (bs x.nm),.string (bs x.mf)]
def nv (x:Nd):Value:=.agg #[x.id.1,x.id.2,x.dir,x.par.1,x.par.2,x.nm,x.mf]
def sv (s:St):Value:=.agg #[s.1,s.2]
def NdC (cs:List Value) (x:Nd):Prop:=cs=nc x/\x.nm.length<=9223372036854775807/\x.mf.length<=9223372036854775807
abbrev lu (w:World) (A:Option Addr) (n c:Nat) (xs:List Nd):Prop:=Sl w 7 NdC A n c xs
variable {k:Nat} {xs:List Nd}
theorem lu.at_ {A:Option Addr} {n c:Nat} (h:lu w A n c xs) (hk:k < xs.length):
  ∃b off,A=some ⟨b,off,none⟩/\b < w.heap.size/\w.cell? ⟨b,off+k*7,none⟩=some (.int .i64 xs[k].id.1)/\w.cell? ⟨b,off+k*7+1,none⟩=some (.int .i64 xs[k].id.2)/\w.cell? ⟨b,off+k*7+2,none⟩=some (.bool xs[k].dir)/\
   w.cell? ⟨b,off+k*7+3,none⟩=some (.int .i64 xs[k].par.1)/\w.cell? ⟨b,off+k*7+4,none⟩=some (.int .i64 xs[k].par.2)/\w.cell? ⟨b,off+k*7+5,none⟩=some (.string (bs xs[k].nm))/\w.cell? ⟨b,off+k*7+6,none⟩=some (.string (bs xs[k].mf))/\
   xs[k].nm.length<=9223372036854775807/\xs[k].mf.length<=9223372036854775807:=by
 obtain ⟨b,off,cs,e,hlt,hl,⟨rfl,Eu,hr2⟩,hc⟩:=h.4 k hk;exact ⟨b,off,e,hlt,by have:=hc 0 _ rfl;simpa using this,hc 1 _ rfl,hc 2 _ rfl,hc 3 _ rfl,hc 4 _ rfl,hc 5 _ rfl,hc 6 _ rfl,Eu,hr2⟩
def eZ (s:St) (x:Nd):Bool:=decide (x.id=s)
def fS (p:Nd->Bool) (xs:List Nd):Int:=match xs.findIdx? p with
 |some i=>i
 |none=>-1
variable {p:Nd->Bool}
theorem sx (hk:k < xs.length) (h:p xs[k]=true) (hall:∀j (hj:j < xs.length),j < k->p xs[j]=false):fS p xs=k:=by
 have h1:xs.findIdx? p=some k:=by
  rw [au];exact ⟨hk,h,λj hj=>by rw [hall j (by omega) hj];simp⟩
 unfold fS;rw [h1]
theorem uH (hall:∀j (hj:j < xs.length),p xs[j]=false):fS p xs= -1:=by
 have h1:xs.findIdx? p=none:=by
  rw [bK];intro x hx;obtain ⟨j,hj,rfl⟩:=bR.1 hx;exact hall j hj
 unfold fS;rw [h1]
theorem gZ (p:Nd->Bool) (xs:List Nd):(∃k:Nat,∃hk:k < xs.length,fS p xs=k/\p xs[k]=true)\/(fS p xs= -1/\∀x∈xs,p x=false):=by
 unfold fS;cases h:xs.findIdx? p with
 |none=>exact .inr ⟨rfl,bK.1 h⟩
 |some k=>
  obtain ⟨hk,h1,_⟩:=au.1 h;exact .inl ⟨k,hk,rfl,h1⟩
def eX (s:St) (xs:List Nd):Nd:=(xs.find? (eZ s)).getD nd0
def er (s:St) (xs:List Nd):Bool:=(xs.find? (eZ s)).isSome
theorem Ic{s:St} (hk:k < xs.length) (h:fS (eZ s) xs=k):eX s xs=xs[k]/\er s xs=true:=by
 have h1:xs.findIdx? (eZ s)=some k:=by
  unfold fS at h;cases hf:xs.findIdx? (eZ s) with
  |none=>rw [hf] at h;have h:(-1:Int)=k:=h;omega
  |some i=>rw [hf] at h;have h:(i:Int)=k:=h;congr 1;omega
 obtain ⟨_,h2,h3⟩:=au.1 h1;have h4:xs.find? (eZ s)=some xs[k]:=by
  rw [List.find?_eq_some_iff_getElem];exact ⟨h2,k,hk,rfl,λj hj=>by have:=h3 j hj;simpa using this⟩
 exact ⟨by rw [eX,h4];rfl,by rw [er,h4];rfl⟩
theorem Rm{s:St} (h:fS (eZ s) xs= -1):eX s xs=nd0/\er s xs=false:=by
 rcases gZ (eZ s) xs with ⟨k,_,h1,_⟩| ⟨_,h1⟩
 ·rw [h] at h1;omega
 ·have h4:xs.find? (eZ s)=none:=List.find?_eq_none.2 λx hx=>by rw [h1 x hx];simp
  exact ⟨by rw [eX,h4];rfl,by rw [er,h4];rfl⟩
theorem iE (a b:St) (w:World):(binOp .eql 30 (.agg #[a.1,a.2]) (.agg #[b.1,b.2])).run prog w=.ok (.bool (decide (a=b))) w:=by
 obtain ⟨a1,a2⟩:=a;obtain ⟨b1,b2⟩:=b;by_cases h1:a1=b1 <;> by_cases h2:a2=b2 <;> simp [go_sem,h1,h2]
theorem W9 (q:Nat) (s:St) (x:Nd) (w:World) (hq:w.cell? q=s.1) (hq1:w.cell? (Qc q 1)=s.2):
  Calls prog 101 #[nv x,Qp q] w (dM w (.bool (eZ s x))):=by
 have hl:=eB hq;obtain ⟨w1,hw1⟩:=dG (w.alloc (.cells (nc x).toArray 38));have hB:=Blk.new w 38 (nc x).toArray;have hb:=dH w (.cells (nc x).toArray 38);have hc:=cell?_alloc_old hq (.cells (nc x).toArray 38);have hc1:=cell?_alloc_old hq1 (.cells (nc x).toArray 38);rw [<-hw1] at hB hb hc hc1;have e0:=hB.cell 0;have e1:=hB.cell 1;unfold nc at hw1 e0 e1;simp only [aO,aT,aZ] at e0 e1;have he:=iE x.id s;have HW:=dL hw1;have HB:=dL hb;clear hw1 hb hB;unfold nv;go_enter func101,ntmps101;go_wp2_with fail;rw [<-HW.o];go_wp2_with fail;go_ret;exact ⟨rfl,HB.o⟩
end
section
open Go.RowKit
attribute [local go_sem] dR dO dS dP
theorem below_drewN {B:Nat} {w0 w:World} (h:Below B w0 w) (n:Nat):Below B w0 (w.drewN n):=⟨h.os,h.tape,h.output,h.size,h.block⟩
theorem N8 (q:Nat) (s:St) (A:Option Addr) (n c:Nat) (xs:List Nd) (w:World) (hx:lu w A n c xs) (hq:w.cell? q=s.1) (hq1:w.cell? (Qc q 1)=s.2):
  Calls prog 100 #[Qq A n c,.func (.func 101) #[] #[.pointer (some ⟨q,0,none⟩)]] w (dM w (.int .i64 (fS (eZ s) xs))):=by
 have FV:=eB hq;have hn:=hx.len;have lg:=hx.max;have hle:=hx.le;have HX:=dL hx;have HQ:=dL hq;have wA:=dL hq1;clear hx hq hq1;go_enter func100,ntmps100;go_wp2_with fail;go_loopw [8] (λi wr=>∃k:Nat,k<=xs.length/\i=.int .i64 k/\Below w w wr/\∀j (hj:j < xs.length),j < k->eZ s xs[j]=false) (λi _=>xs.length - (intOf i).toNat)
 case atStart=>exact ⟨0,by omega,rfl,aC _ _,λj _ h=>by omega⟩
 case round=>
  obtain ⟨k,hk,rfl,hb,hall⟩:=hrel;rcases aD k xs.length with hlt|hge
  ·obtain ⟨b,off,rfl,jW,c0,c1,c2,c3,c4,c5,c6,_⟩:=lu.at_ (HX.o.below hb) hlt
   have JS:=dU hb FV HQ.o;have abk:=dU hb FV wA.o;have HA:=dL hall;have hcl:=W9 q s xs[k] wr JS abk;obtain ⟨x,hx⟩:∃x,xs[k]=x:=⟨_,rfl⟩;rw [hx] at c0 c1 c2 c3 c4 c5 c6 hcl;unfold nv at hcl;have wB:=dL hcl;have nB:=dL hx;have HB:=dL hb;have hki:(k:Int) < (n:Int):=by omega
   clear hall hx hb JS abk hcl;go_wp2_with fail;refine wB.o.mono ?_;rintro e w2 ⟨rfl,dY⟩;have dn:=HB.o.trans (dY.mono HB.o.size);cases hc:eZ s x with
   |true=>
    go_wp2_with fail;have dy:fS (eZ s) xs=k:=sx hlt (by rw [nB.o];exact hc) HA.o;go_ret;exact ⟨by rw [dy];rfl,dn⟩
   |false=>
    go_wp2_with fail;exact ⟨⟨k+1,by omega,by go_num,dn,λj hj hjk=>by
     by_cases e:j=k
     ·subst e;rw [nB.o];exact hc
     ·exact HA.o j hj (by omega)⟩,by simp [intOf];omega⟩
  ·have hkn:¬ (k:Int) < (n:Int):=by omega
   have dy:fS (eZ s) xs= -1:=uH λj hj=>hall j hj (by omega)
   clear hall;go_wp2_with fail;go_ret;exact ⟨rfl,hb⟩
theorem zx (s:St) (A:Option Addr) (n c:Nat) (xs:List Nd) (w:World) (hx:lu w A n c xs):
  Calls prog 53 #[Qq A n c,sv s] w (dM w (.int .i64 (fS (eZ s) xs))):=by
 have dV:=dH w (.cells #[s.1,s.2] 30);have hB:=Blk.new w 30 #[s.1,s.2];have h1:=N8 w s A n c xs _ (hx.below dV) (hB.cell 0) (hB.cell 1);have H1:=dL h1;have HB:=dL dV;clear h1 dV hB hx;unfold sv;go_enter func53,ntmps53;go_wp2_with fail;refine H1.o.mono ?_;rintro e w2 ⟨rfl,dY⟩;have dn:=HB.o.trans (dY.mono HB.o.size);go_wp2_with fail;go_ret;exact ⟨rfl,dn⟩
end
section
open Go.RowKit
attribute [local go_sem] dR dO dS dP
def jJ (w:World) (B:Nat) (x:Nd):World:=((((((w.setCell B x.id.1).setCell (Qc B 1) x.id.2).setCell (Qc B 2) x.dir).setCell (Qc B 3) x.par.1).setCell (Qc B 4) x.par.2).setCell (Qc B 5) x.nm).setCell (Qc B 6) x.mf
variable {w:World} {B B0:Nat}
theorem jw {y:Nd} (x:Nd) (h:Blk w B 38 (nc y).toArray):Blk (jJ w B x) B 38 (nc x).toArray:=by
 have:=Blk.set_ (Blk.set_ (Blk.set_ (Blk.set_ (Blk.set_ (Blk.set_ (Blk.set_ h 0 (.int .i64 x.id.1)) 1 (.int .i64 x.id.2)) 2 (.bool x.dir)) 3 (.int .i64 x.par.1)) 4 (.int .i64 x.par.2)) 5 (.string (bs x.nm))) 6 (.string (bs x.mf));unfold jJ;simpa [nc] using this
theorem ij {w0:World} (h:Below B0 w0 w) (hB:B0<=B) (x:Nd):Below B0 w0 (jJ w B x):=
 ((((((h.setCell (p:=B) hB _).setCell (p:=Qc B 1) hB _).setCell (p:=Qc B 2) hB _).setCell (p:=Qc B 3) hB _).setCell (p:=Qc B 4) hB _).setCell (p:=Qc B 5) hB _).setCell (p:=Qc B 6) hB _
theorem eW {x:Nd} (h:Blk w B 38 (nc x).toArray):w.cell? B=x.id.1/\w.cell? (Qc B 1)=x.id.2/\w.cell? (Qc B 2)=x.dir/\w.cell? (Qc B 3)=x.par.1/\w.cell? (Qc B 4)=x.par.2/\w.cell? (Qc B 5)=x.nm/\w.cell? (Qc B 6)=x.mf:=
 ⟨h.cell 0,h.cell 1,h.cell 2,h.cell 3,h.cell 4,h.cell 5,h.cell 6⟩
theorem DB (s:St) (A:Option Addr) (n c:Nat) (xs:List Nd) (w:World) (hx:lu w A n c xs):
  Calls prog 15 #[Qq A n c,sv s] w (dM w (.tuple #[nv (eX s xs),(er s xs)])):=by
 have hn:=hx.len;have lg:=hx.max;have hle:=hx.le;have dV:=dH w (.cells #[s.1,s.2] 30);have hB:=Blk.new w 30 #[s.1,s.2];have q0:=hB.cell 0;have q1:=hB.cell 1;simp only [aO,aT,aZ] at q0 q1;have q0:=cell?_alloc_old q0 (.cells (nc nd0).toArray 38);have q1:=cell?_alloc_old q1 (.cells (nc nd0).toArray 38);have dY:=dV.alloc dV.size (.cells (nc nd0).toArray 38);have fD:=Blk.new (w.alloc (.cells #[s.1,s.2] 30)) 38 (nc nd0).toArray;have hsz:(w.alloc (.cells #[s.1,s.2] 30)).heap.size=w.heap.size+1:=ai _;rw [hsz] at fD;have hx1:=hx.below dY;obtain ⟨w1,hw1⟩:=dG ((w.alloc (.cells #[s.1,s.2] 30)).alloc (.cells (nc nd0).toArray 38));rw [<-hw1] at fD dY hx1 q0 q1;have HW:=dL (show w1=(w.alloc (.cells #[s.1,s.2] 30)).alloc (.cells #[qn,qn,false,qn,qn,yj,yj] 38) from hw1);have HX:=dL hx1;have HB:=dL dY;have eA:=dL fD;have HP:=dL (zx s A n c xs w1 hx1);clear hw1 hx1 dV hB hx dY fD hsz;unfold sv at*;rcases gZ (eZ s) xs with ⟨k,hk,iU,hp⟩| ⟨iU,hall⟩
 ·obtain ⟨e1,e2⟩:=Ic hk iU
  rw [e1,e2];rw [iU] at HP;obtain ⟨x,YW⟩:=dG (xs[k]);rw [<-YW];have HXK:=dL YW;have hki:(k:Int) < (n:Int):=by omega
  have hkd:decide ((k:Int)≥0)=true:=decide_eq_true (by omega);clear e1 e2 iU hp YW;go_enter func15,ntmps15;go_wp2_with fail;rw [<-HW.o];refine HP.o.mono ?_;rintro e w2 ⟨rfl,dY⟩;have nI:=HB.o.trans (dY.mono HB.o.size);have fD:=Blk.below eA.o dY (Blk.lt eA.o);have hx2:=HX.o.below dY;have hf:=λi=>Blk.frozen fD i
  have f0:=hf 0;have f1:=hf 1;have f2:=hf 2;have f3:=hf 3;have f4:=hf 4;have f5:=hf 5;have f6:=hf 6;obtain ⟨g0,g1,g2,g3,g4,g5,g6⟩:=eW fD;have dy:=ij nI (bF w) x;have r:=eW (jw x fD);obtain ⟨b,off,rfl,jW,c0,c1,c2,c3,c4,c5,c6,_⟩:=lu.at_ hx2 hk;rw [<-HXK.o] at c0 c1 c2 c3 c4 c5 c6;unfold jJ at dy r;obtain ⟨r0,r1,r2,r3,r4,r5,r6⟩:=r;have HF:=dL dy;clear dy hf fD dY nI hx2;go_wp2_with fail;exact bodyPost_ret (v:=.tuple #[nv x,true]) (by simp [results,results15,go_sem,nv,r0,r1,r2,r3,r4,r5,r6]) rfl ⟨rfl,HF.o⟩
 ·obtain ⟨e1,e2⟩:=Rm iU
  rw [e1,e2];rw [iU] at HP;clear e1 e2 iU hall;go_enter func15,ntmps15;go_wp2_with fail;rw [<-HW.o];refine HP.o.mono ?_;rintro e w2 ⟨rfl,dY⟩;have nI:=HB.o.trans (dY.mono HB.o.size);have fD:=Blk.below eA.o dY (Blk.lt eA.o);have hf:=λi=>Blk.frozen fD i
  have f0:=hf 0;have f1:=hf 1;have f2:=hf 2;have f3:=hf 3;have f4:=hf 4;have f5:=hf 5;have f6:=hf 6;obtain ⟨g0,g1,g2,g3,g4,g5,g6⟩:=eW fD;have dy:=ij nI (bF w) nd0;have r:=eW (jw nd0 fD);unfold jJ nd0 at dy r;obtain ⟨r0,r1,r2,r3,r4,r5,r6⟩:=r;have HF:=dL dy;have he:(bs []:ByteArray)= ⟨#[]⟩:=rfl;simp only [he] at r0 r1 r2 r3 r4 r5 r6;have HF:=dL HF.o;clear dy hf fD dY nI;go_wp2_with fail;exact bodyPost_ret (v:=.tuple #[nv nd0,false]) (by simp [results,results15,go_sem,nv,nd0,r0,r1,r2,r3,r4,r5,r6];rfl) rfl ⟨rfl,HF.o⟩
end
section
open Go.RowKit
attribute [local go_sem] dR dO dS dP
theorem DC (w:World):Calls prog 108 #[] w (dM w (.agg #[qn,yh])):=by
 have HB:=dL ((aC w w).alloc (aB _) (.cells #[qn,yh] 30));go_enter func108,ntmps108;go_wp2_with fail;exact bodyPost_ret (v:=.agg #[qn,yh]) (by simp [results,results108,go_sem]) rfl ⟨rfl,HB.o⟩
def gM (s:St) (xs:List Nd):Bool:=decide (s=(0,0)) || er s xs && (eX s xs).dir
theorem zy (s:St) (A:Option Addr) (n c:Nat) (xs:List Nd) (w:World) (hx:lu w A n c xs):
  Calls prog 107 #[Qq A n c,sv s] w (dM w (.bool (gM s xs))):=by
 have dV:=dH w (.cells #[s.1,s.2] 30);have hB:=Blk.new w 30 #[s.1,s.2];have q0:=hB.cell 0;have q1:=hB.cell 1;simp only [aO,aT,aZ] at q0 q1;have hx1:=hx.below dV;have hz:=iE s (0,0);obtain ⟨w1,hw1⟩:=dG (w.alloc (.cells #[s.1,s.2] 30));rw [<-hw1] at dV hx1 q0 q1;have HW:=dL hw1;have HB:=dL dV;have HF:=dL (DB s A n c xs w1 hx1);clear hw1 hx1 dV hB hx;unfold gM;unfold sv nv at*;by_cases h0:s=(0,0)
 ·have hd:decide (s=(0,0))=true:=decide_eq_true h0
  rw [hd,Bool.true_or];clear h0;simp only [hd] at hz;go_enter func107,ntmps107;go_wp2_with fail;rw [<-HW.o];go_wp2_with fail;go_ret;exact ⟨rfl,HB.o⟩
 ·have hd:decide (s=(0,0))=false:=decide_eq_false h0
  rw [hd,Bool.false_or];clear h0;simp only [hd] at hz;generalize eX s xs=y at*;go_enter func107,ntmps107;go_wp2_with fail;rw [<-HW.o];go_wp2_with fail;refine HF.o.mono ?_;rintro e w2 ⟨rfl,dY⟩;have dn:=HB.o.trans (dY.mono HB.o.size);have hb4:=dL (dn.alloc dn.size (.cells (nc y).toArray 38));have g2:=(Blk.new w2 38 (nc y).toArray).cell 2;unfold nc at g2 hb4;simp only [aO,aT,aZ] at g2;clear dY dn;cases hh:er s xs with
  |true=>
   go_wp2_with fail;go_ret;exact ⟨by simp [hh],hb4.o⟩
  |false=>
   go_wp2_with fail;go_ret;exact ⟨by simp [hh],hb4.o⟩
end
section
open Go.RowKit
attribute [local go_sem] dR dO dS dP
def SC (cs:List Value) (x:St):Prop:=cs=[.int .i64 x.1,.int .i64 x.2]
abbrev Yy (w:World) (A:Option Addr) (n c:Nat) (xs:List St):Prop:=Sl w 2 SC A n c xs
variable {xs:List St}
theorem Yy.at_{w:World} {A:Option Addr} {n c k:Nat} (h:Yy w A n c xs) (hk:k < xs.length):
  ∃b off,A=some ⟨b,off,none⟩/\b < w.heap.size/\w.cell? ⟨b,off+k*2,none⟩=some (.int .i64 xs[k].1)/\w.cell? ⟨b,off+k*2+1,none⟩=some (.int .i64 xs[k].2):=by
 obtain ⟨b,off,cs,e,hlt,hl,rfl,hc⟩:=h.4 k hk;exact ⟨b,off,e,hlt,by have:=hc 0 _ rfl;simpa using this,hc 1 _ rfl⟩
def nL (s:St) (xs:List St):Int:=match xs.findIdx? (λx=>decide (x=s)) with
 |some i=>i
 |none=>-1
theorem Jz{s:St} {k:Nat} (hk:k < xs.length) (h:decide (xs[k]=s)=true) (hall:∀j (hj:j < xs.length),j < k->decide (xs[j]=s)=false):nL s xs=k:=by
 have h1:xs.findIdx? (λx=>decide (x=s))=some k:=by
  rw [au];exact ⟨hk,h,λj hj=>by rw [hall j (by omega) hj];simp⟩
 unfold nL;rw [h1]
theorem DD{s:St} (hall:∀j (hj:j < xs.length),decide (xs[j]=s)=false):nL s xs= -1:=by
 have h1:xs.findIdx? (λx=>decide (x=s))=none:=by
  rw [bK];intro x hx;obtain ⟨j,hj,rfl⟩:=bR.1 hx;exact hall j hj
 unfold nL;rw [h1]
theorem Fh (s:St) (xs:List St):decide (nL s xs≥0)=decide (s∈xs):=by
 unfold nL;cases h:xs.findIdx? (λx=>decide (x=s)) with
 |none=>
  have:=bK.1 h;have hn:s∉xs:=λhm=>by have:=this s hm;simp at this
  simp [hn]
 |some k=>
  obtain ⟨hk,h1,_⟩:=au.1 h;have hm:s∈xs:=by
   have:xs[k]=s:=of_decide_eq_true h1;rw [<-this];exact aa hk
  simp [hm]
theorem N9 (s:St) (A:Option Addr) (n c:Nat) (xs:List St) (w:World) (hx:Yy w A n c xs):
  Calls prog 241 #[Qq A n c,sv s] w (dM w (.int .i64 (nL s xs))):=by
 have dV:=dH w (.cells #[s.1,s.2] 30);have hB:=Blk.new w 30 #[s.1,s.2];have hx1:=hx.below dV;have q0:=hB.cell 0;have q1:=hB.cell 1;simp only [aO,aT,aZ] at q0 q1;have hn:=hx.len;have lg:=hx.max;have hle:=hx.le;obtain ⟨w1,hw1⟩:=dG (w.alloc (.cells #[s.1,s.2] 30));rw [<-hw1] at hB dV hx1 q0 q1;have HW:=dL hw1;have HX:=dL hx1;have HB:=dL dV;have hs:=dV.size;obtain ⟨B,uo⟩:=dG w.heap.size;have gH:=eB q0;rw [<-uo] at q0 q1 gH;have rG:=dL uo;have XH:=dL q0;have wA:=dL q1;clear hw1 hx1 dV hB hx uo q0 q1 hs;unfold sv;go_enter func241,ntmps241;go_wp2_with fail;rw [<-HW.o,<-rG.o];go_loopw [8] (λi wr=>∃k:Nat,k<=xs.length/\i=.int .i64 k/\Below w1 w1 wr/\∀j (hj:j < xs.length),j < k->decide (xs[j]=s)=false) (λi _=>xs.length - (intOf i).toNat)
 case atStart=>exact ⟨0,by omega,rfl,aC _ _,λj _ h=>by omega⟩
 case round=>
  obtain ⟨k,hk,rfl,hb,hall⟩:=hrel;have nI:=HB.o.trans (hb.mono HB.o.size);rcases aD k xs.length with hlt|hge
  ·obtain ⟨b,off,rfl,jW,c0,c1⟩:=Yy.at_ (HX.o.below hb) hlt
   have q0:=dU hb gH XH.o;have q1:=dU hb gH wA.o;have HA:=dL hall;obtain ⟨x,hx⟩:∃x,xs[k]=x:=⟨_,rfl⟩;rw [hx] at c0 c1;have he:=iE s x;have VD:decide (s=x)=decide (x=s):=decide_eq_decide.2 ⟨Eq.symm,Eq.symm⟩;rw [VD] at he;have nB:=dL hx;have fI:=dL hb;have hki:(k:Int) < (n:Int):=by omega
   clear hall hx hb;cases hc:decide (x=s) with
   |true=>
    go_wp2_with fail;go_quiet (fail)
    have ef:=dL (below_drewN nI nq);go_wp2_with fail;have dy:nL s xs=k:=Jz hlt (by rw [nB.o];exact hc) HA.o;go_ret;exact ⟨by rw [dy];rfl,ef.o⟩
   |false=>
    go_wp2_with fail;go_quiet (fail)
    have ef:=dL (below_drewN fI.o nq);go_wp2_with fail;exact ⟨⟨k+1,by omega,by go_num,ef.o,λj hj hjk=>by
     by_cases e:j=k
     ·subst e;rw [nB.o];exact hc
     ·exact HA.o j hj (by omega)⟩,by simp [intOf];omega⟩
  ·have hkn:¬ (k:Int) < (n:Int):=by omega
   have dy:nL s xs= -1:=DD λj hj=>hall j hj (by omega)
   clear hall;go_wp2_with fail;go_ret;exact ⟨rfl,nI⟩
theorem DE (s:St) (A:Option Addr) (n c:Nat) (xs:List St) (w:World) (hx:Yy w A n c xs):
  Calls prog 164 #[Qq A n c,sv s] w (dM w (.bool (decide (s∈xs)))):=by
 have dV:=dH w (.cells #[s.1,s.2] 30);have HI:=dL (N9 s A n c xs _ (hx.below dV));have HB:=dL dV;rw [<-Fh];clear dV hx;unfold sv at*;go_enter func164,ntmps164;go_wp2_with fail;refine HI.o.mono ?_;rintro e w2 ⟨rfl,dY⟩;have dn:=HB.o.trans (dY.mono HB.o.size);go_wp2_with fail;go_ret;exact ⟨rfl,dn⟩
end
section
open Go.RowKit
attribute [local go_sem] dR dO dS dP
def jU (l:List Nd):List Value:=l.flatMap nc
theorem l9 (a b:List Nd):jU (a++b)=jU a++jU b:=by simp [jU]
theorem ia (l:List Nd):(jU l).length=l.length*7:=by
 induction l with
 |nil=>rfl
 |cons x l ih=>simp only [jU,aj,aP,aY] at ih ⊢;rw [ih];simp [nc];omega
theorem qd (l:List Nd) (k j:Nat) (hk:k < l.length) (hj:j < 7):(jU l)[k*7+j]? =(nc l[k])[j]?:=by
 induction l generalizing k with
 |nil=>simp at hk
 |cons x l ih=>
  cases k with
  |zero=>
   simp only [jU,aj];rw [bY (by simp [nc];omega)];simp
  |succ k=>
   have:=ih k (by simpa using hk);simp only [jU,aj] at this ⊢;rw [bt (by simp [nc];omega)];rw [show (k+1)*7+j - (nc x).length=k*7+j from by simp [nc];omega,this];simp
def Short (xs:List Nd):Prop:=∀x∈xs,x.nm.length<=9223372036854775807/\x.mf.length<=9223372036854775807
abbrev Own (w:World) (B:Nat) (v:Value) (xs:List Nd):Prop:=dQ w B 7 v xs.length (jU xs)
variable {w:World} {xs:List Nd} {B n:Nat}
theorem lu.short {A:Option Addr} {c:Nat} (h:lu w A n c xs):Short xs:=λx hx=>by
 obtain ⟨j,hj,rfl⟩:=bR.1 hx;obtain ⟨b,off,cs,e,hlt,hl,⟨_,h1,h2⟩,hc⟩:=h.4 j hj;exact ⟨h1,h2⟩
variable {v:Value}
theorem Own.nds (h:Own w B v xs) (hs:Short xs):∃A c,v=.slice A xs.length c/\lu w A xs.length c xs:=by
 rcases h.2 with ⟨rfl,h0⟩| ⟨g,cap,rfl,hb,hlt,hnc,hcm,_,_,hx⟩
 ·obtain rfl:xs=[]:=az h0
  exact ⟨none,0,rfl,Sl.nil_⟩
 ·refine ⟨_,cap,rfl,rfl,hnc,by unfold maxLen at hcm;omega,λi hi=> ⟨g,0,nc xs[i],rfl,hlt,rfl,⟨rfl,hs _ (aa hi)⟩,λj u hu=>?_⟩⟩
  have hj:j < 7:=by
   rcases aD j 7 with h|h
   ·exact h
   ·rw [bD (by simpa [nc] using h)] at hu;cases hu
  rw [aV];exact hx _ u (by rw [qd xs i j hi hj];exact hu)
theorem qf:(prog.info? 38).map (λi=>(i.zero,i.size,i.bytes))=some (some (.agg #[qn,qn,false,qn,qn,yj,yj]),7,72):=by kernel_rfl
theorem oU (x:Nd):∀u∈nc x,u.oneCell'=true:=by
 intro u hu;simp [nc] at hu;rcases hu with rfl|rfl|rfl|rfl|rfl|rfl|rfl <;> rfl
theorem Src.nd {g c:Nat} (x:Nd) (h:Blk w g 38 (nc x).toArray):Src prog 7 33 (.slice (some g) 1 c) 1 (nc x) w:=
 Src.ofSlice w underlying33 ⟨g,0,none⟩ 1 c (nc x) rfl (λj u hu=>by
  have:(Addr.mk g 0 none).add j= ⟨g,j,none⟩:=by unfold Addr.add;split <;> simp_all
  rw [this,h.cell];simpa using hu) (oU x)
theorem dQ.isSlice {size:Nat} {xs:List Value} (h:dQ w B size v n xs):∃A c,v=.slice A n c:=by
 rcases h.2 with ⟨rfl,rfl⟩| ⟨g,cap,rfl,_⟩
 ·exact ⟨_,_,rfl⟩
 ·exact ⟨_,_,rfl⟩
theorem Blk.new2 (w:World) (o:Obj) (t:TypeId) (cs:Array Value):Blk ((w.alloc o).alloc (.cells cs t)) (w.heap.size+1) t cs:=by
 have:=Blk.new (w.alloc o) t cs
 rwa [show (w.alloc o).heap.size=w.heap.size+1 from ai _] at this
theorem Own.snoc {x:Nd} (h:dQ w B 7 v (xs.length+1) (jU xs++nc x)):Own w B v (xs++[x]):=by
 unfold Own;rw [l9,aP];simpa [jU] using h
def fo (s:St) (xs:List Nd):List Nd:=xs.filter λx=>decide (x.par=s)
theorem K0 (s:St) (xs:List Nd) (k:Nat) (h:k < xs.length):fo s (xs.take (k+1))=fo s (xs.take k)++(if xs[k].par=s then [xs[k]] else []):=by
 unfold fo;rw [ay h,List.filter_append];congr 1;by_cases c:xs[k].par=s <;> simp [c]
theorem NA (s:St) (xs:List Nd) (k:Nat):(fo s (xs.take k)).length<=k:=aI (List.length_filter_le _ _) (by rw [aR];omega)
end
section
open Go.RowKit
attribute [local go_sem] dR dO dS dP
def di (a b:St):Bool:=decide (a.1 < b.1) || (decide (a.1=b.1) && decide (a.2 < b.2))
theorem rN (a b:St) (w:World):Calls prog 12 #[sv a,sv b] w (dM w (.bool (di a b))):=by
 have hb:=((aC w w).alloc (aB _) (.cells #[a.1,a.2] 30)).alloc (by simp) (.cells #[b.1,b.2] 30);have HB:=dL hb;clear hb;unfold sv;by_cases h:a.1=b.1
 ·have e:(a.1 ==b.1)=true:=beq_iff_eq.2 h
  have hf:di a b=decide (a.2 < b.2):=by unfold di;simp [h]
  rw [hf];have e2:(a.1 != b.1)=false:=by simp [h]
  clear h hf;go_enter func12,ntmps12;go_wp2_with fail;go_ret;exact ⟨rfl,HB.o⟩
 ·have e:(a.1 ==b.1)=false:=beq_eq_false_iff_ne.2 h
  have e2:(a.1 != b.1)=true:=by simp [h]
  have hf:di a b=decide (a.1 < b.1):=by unfold di;simp [h]
  rw [hf];clear h hf;go_enter func12,ntmps12;go_wp2_with fail;go_ret;exact ⟨rfl,HB.o⟩
theorem Fi (x:Nd) (w:World):(binOp .neq 38 (nv x) (nv x)).run prog w=.ok (.bool false) w:=by
 unfold nv;simp [go_sem]
theorem NC (A A2:Option Addr) (n c c2:Nat) (xs:List Nd) (w:World) (hx:lu w A n c xs) (hy:lu w A2 n c2 xs):
  Calls prog 21 #[Qq A n c,Qq A2 n c2] w (dM w (.bool true)):=by
 have hn:=hx.len;have lg:=hx.max;have hle:=hx.le;have hmy:=hy.max;have abl:=hy.le;have HX:=dL hx;have HY:=dL hy;clear hx hy;go_enter func21,ntmps21;go_wp2_with fail;go_loopw [5] (λi wr=>∃k:Nat,k<=n/\i=.int .i64 k/\Below w w wr) (λi _=>n - (intOf i).toNat)
 case atStart=>exact ⟨0,by omega,rfl,aC _ _⟩
 case round=>
  obtain ⟨k,hk,rfl,hb⟩:=hrel;rcases aD k n with hlt|hge
  ·have hki:(k:Int) < (n:Int):=by omega
   obtain ⟨b,off,rfl,jW,c0,c1,c2,c3,c4,c5,c6,_⟩:=lu.at_ (HX.o.below hb) (by omega:k < xs.length);obtain ⟨b2,off2,rfl,CX,d0,d1,d2,d3,d4,d5,d6,_⟩:=lu.at_ (HY.o.below hb) (by omega:k < xs.length);generalize xs[k]=x at*;have he:=Fi x;unfold nv at he;have HB:=dL hb;clear hb;go_wp2_with fail;go_quiet (fail)
   have ef:=dL (below_drewN HB.o nq);go_wp2_with fail;exact ⟨⟨k+1,by omega,by go_num,ef.o⟩,by simp [intOf];omega⟩
  ·have hkn:¬ (k:Int) < (n:Int):=by omega
   have HB:=dL hb;clear hb;go_wp2_with fail;go_ret;exact ⟨rfl,HB.o⟩
end
section
open Go.RowKit
attribute [local go_sem] dR dO dS dP
theorem Ul (x y:St) (w:World):(Op.equalIn 10000 30 (sv x) (sv y)).run prog w=.ok (decide (x=y)) w:=by
 obtain ⟨a1,a2⟩:=x;obtain ⟨b1,b2⟩:=y;unfold sv;by_cases h1:a1=b1 <;> by_cases h2:a2=b2 <;> simp [go_sem,h1,h2]
theorem DF (e:Bool) (x:St) (n:Nat) (w:World):(Instr.checkKey e (n+2) 30 (sv x)).run prog w=.ok () w:=by
 unfold sv;simp [go_sem,Instr.checkKey,run_underlying underlying30,run_underlying underlying3]
theorem Um:MapTy prog sv 96 30 4 (.bool false) where
 map_:=by kernel_rfl
 zero:=λw=>by simp [go_sem]
 eq:=λx y w=>Ul x y w
 check:=λe x w=>DF e x 9998 w
 wide:=⟨_,underlying30,λa b=>rfl⟩
 bits:=λs=>by simp [Instr.sameBits,sv]
section
variable {K:Type} [DecidableEq K] {P:Program} {kv:K->Value} {mt kt et:TypeId} {z:Value}
theorem MapF.update (M:MapTy P kv mt kt et z) {w:World} {b:Nat} {f:K->Option Value} (h:MapF kv w b f) (k:K) (v:Value):
  ∃w1,(Instr.mapUpdate mt (.map (some b)) (kv k) v).run P w=.ok () w1/\MapF kv w1 b (λk'=>if k'=k then some v else f k')/\w.grownBy w1 (some b)/\w1.heap.size=w.heap.size:=by
 obtain ⟨ms,c,hb,hnd,hlt,hf⟩:=h;have mS:=finding M k w ms;cases hp:place ms k with
 |some p=>
  obtain ⟨i,e⟩:=p;obtain ⟨hi,ML⟩:=kz hp;have hmod:((ms.map (fq kv)).toArray.modify i λx=>{ x with key:=kv k,val:=v })=((setAt ms i v).map (fq kv)).toArray:=by
   apply cQ;intro j;simp only [setAt,cK,aO,cL,List.getElem?_modify];by_cases cj:i=j
   ·subst cj;simp [hi,fq,ML]
   ·simp [cj]
  obtain ⟨w1,hr,dV,hg1,hs1⟩:=set_obj (P:=P) (.map ((setAt ms i v).map (fq kv)).toArray c) hb;refine ⟨w1,?_,⟨_,c,dV,by rw [gY];exact hnd,λx hx=>?_,λk'=>?_⟩,hg1,hs1⟩
  ·simp only [Instr.mapUpdate,Sem.run_bind,run_underlying M.map_,Go.MapKept.run_getObj_map hb,Result.andThen_ok,M.check,mS,hp,bI]
   have h1:((ms.map (fq kv)).toArray[i]?)=some (fq kv e):=by simp [hi]
   rw [h1];simp only [bI,bw];rw [show (fq kv e).key=kv k from by rw [<-ML];rfl];simp only [Instr.keyThatStays,M.bits,if_true,Sem.run_pure,Result.andThen_ok,hmod,hr]
  ·have:x.2.2∈(setAt ms i v).map (·.2.2):=aU.2 ⟨x,hx,rfl⟩
   rw [gY] at this;obtain ⟨y,hy,e⟩:=aU.1 this;rw [<-e];exact hlt y hy
  ·show get (setAt ms i v) k'=if k'=k then some v else f k'
   rw [mV hp,hf k']
 |none=>
  have yN:((ms.map (fq kv)).toArray.push { key:=kv k,val:=v,born:=c })=((ms++[(k,v,c)]).map (fq kv)).toArray:=by simp [fq]
  obtain ⟨w1,hr,dV,hg1,hs1⟩:=set_obj (P:=P) (.map ((ms++[(k,v,c)]).map (fq kv)).toArray (c+1)) hb;have CN:((ms++[(k,v,c)]).map (·.2.2)).Nodup:=by
   rw [bQ];refine cE.2 ⟨hnd,by simp,?_⟩;intro a ha b hb';obtain ⟨x,hx,rfl⟩:=aU.1 ha;simp at hb';have:=hlt x hx;omega
  have CO:∀e∈ms++[(k,v,c)],e.2.2 < c+1:=by
   intro e he;rcases aq.1 he with h|h
   ·have:=hlt e h;omega
   ·simp at h;rw [h];exact Nat.lt_succ_self _
  refine ⟨w1,?_,⟨_,c+1,dV,CN,CO,λk'=>?_⟩,hg1,hs1⟩
  ·simp only [Instr.mapUpdate,Sem.run_bind,run_underlying M.map_,Go.MapKept.run_getObj_map hb,Result.andThen_ok,M.check,mS,hp,Option.map_none,yN,hr]
  ·show get (ms++[(k,v,c)]) k'=if k'=k then some v else f k'
   rw [l6 hp,hf k']
end
def Met (w:World) (M:Nat) (l:List St):Prop:=∃f,MapF sv w M f/\∀s,(f s).getD (.bool false)=.bool (decide (s∈l))
theorem Met.new (w:World):Met (w.alloc (.map #[] 0)) w []:=⟨_,MapF.new w,λs=>by simp⟩
theorem Met.heap {w w':World} {M:Nat} {l:List St} (h:Met w M l) (hb:w'.heap[M]? =w.heap[M]?):Met w' M l:=by
 obtain ⟨f,h1,h2⟩:=h;exact ⟨f,h1.heap hb,h2⟩
theorem Met.lt {w:World} {M:Nat} {l:List St} (h:Met w M l):M < w.heap.size:=by
 obtain ⟨f,h1,_⟩:=h;exact h1.lt
theorem Met.look {w:World} {M:Nat} {l:List St} (h:Met w M l) (s:St):(Instr.lookup 96 (.map (some M)) (sv s) false).run prog w=.ok (.bool (decide (s∈l))) w:=by
 obtain ⟨f,h1,h2⟩:=h;rw [h1.look Um s,h2]
theorem Met.add {w:World} {M:Nat} {l:List St} (h:Met w M l) (s:St):
  ∃w1,(Instr.mapUpdate 96 (.map (some M)) (sv s) (.bool true)).run prog w=.ok () w1/\Met w1 M (l++[s])/\w.grownBy w1 (some M)/\w1.heap.size=w.heap.size:=by
 obtain ⟨f,h1,h2⟩:=h;obtain ⟨w1,e1,e2,e3,e4⟩:=h1.update Um s (.bool true);refine ⟨w1,e1,⟨_,e2,λx=>?_⟩,e3,e4⟩;by_cases c:x=s
 ·simp [c]
 ·simp only [if_neg c]
  rw [h2 x];simp [c]
theorem run_make (w:World):(Instr.makeMap 96 none).run prog w=.ok (.map (some w.heap.size)) (w.alloc (.map #[] 0)):=by simp [Instr.makeMap,go_sem]
def oV (xs:List Nd):Nat->List St->St->List St
 |0,out,_=>out
 |f+1,out,id=>if id∈out then out else if er id xs then oV xs f (out++[id]) (eX id xs).par else if out=[] then [] else out++[id]
def left (xs:List Nd) (out:List St):Nat:=(xs.filter λx=>decide (x.id∉out)).length
variable {xs:List Nd}
theorem Rn{p q:Nd->Bool} (h:∀x,q x=true->p x=true) {x:Nd} (hx:x∈xs) (hp:p x=true) (hq:q x=false):(xs.filter q).length < (xs.filter p).length:=by
 have hle:∀ys:List Nd,(ys.filter q).length<=(ys.filter p).length:=λys=>by
  induction ys with
  |nil=>simp
  |cons y ys ih=>
   simp only [bu];cases hqy:q y with
   |true=>rw [h y hqy];simp;exact ih
   |false=>cases p y <;> simp <;> omega
 induction xs with
 |nil=>cases hx
 |cons y ys ih=>
  simp only [bu];rcases aQ.1 hx with rfl|hx
  ·rw [hp,hq];simp;have:=hle ys;omega
  ·have:=ih hx
   cases hqy:q y with
   |true=>rw [h y hqy];simp;exact this
   |false=>cases p y <;> simp <;> omega
theorem vZ{s:St} (h:er s xs=true):eX s xs∈xs/\(eX s xs).id=s:=by
 unfold er at h;unfold eX;cases hf:xs.find? (eZ s) with
 |none=>rw [hf] at h;cases h
 |some x=>
  have h1:=List.find?_some hf;exact ⟨List.mem_of_find?_eq_some hf,of_decide_eq_true h1⟩
theorem Ie {out:List St} {s:St} (h:er s xs=true) (hs:s∉out):left xs (out++[s]) < left xs out:=by
 obtain ⟨h1,h2⟩:=vZ h;refine Rn (λx hx=>?_) h1 (by rw [h2];simp [hs]) (by rw [h2];simp);simp at hx ⊢;exact hx.1
theorem wR (xs:List Nd):left xs []<=xs.length:=List.length_filter_le _ _
def oW (xs:List Nd) (s:St):List St:=oV xs (xs.length+1) [] s
end
section
open Go.RowKit
attribute [local go_sem] dR dO dS dP run_make
def sc (s:St):List Value:=[.int .i64 s.1,.int .i64 s.2]
def MO (l:List St):List Value:=l.flatMap sc
theorem Fj (a b:List St):MO (a++b)=MO a++MO b:=by simp [MO]
theorem WA (l:List St) (k j:Nat) (hk:k < l.length) (hj:j < 2):(MO l)[k*2+j]? =(sc l[k])[j]?:=by
 induction l generalizing k with
 |nil=>simp at hk
 |cons x l ih=>
  cases k with
  |zero=>
   simp only [MO,aj];rw [bY (by simp [sc];omega)];simp
  |succ k=>
   have:=ih k (by simpa using hk);simp only [MO,aj] at this ⊢;rw [bt (by simp [sc];omega)];rw [show (k+1)*2+j - (sc x).length=k*2+j from by simp [sc];omega,this];simp
abbrev ux (w:World) (B:Nat) (v:Value) (l:List St):Prop:=dQ w B 2 v l.length (MO l)
variable {w w0 wr w':World} {v u:Value} {xs:List St}
theorem ux.sts {B:Nat} (h:ux w B v xs):∃A c,v=.slice A xs.length c/\Yy w A xs.length c xs:=by
 rcases h.2 with ⟨rfl,h0⟩| ⟨g,cap,rfl,hb,hlt,hnc,hcm,_,_,hx⟩
 ·obtain rfl:xs=[]:=az h0
  exact ⟨none,0,rfl,Sl.nil_⟩
 ·refine ⟨_,cap,rfl,rfl,hnc,by unfold maxLen at hcm;omega,λi hi=> ⟨g,0,sc xs[i],rfl,hlt,rfl,rfl,λj u hu=>?_⟩⟩
  have hj:j < 2:=by
   rcases aD j 2 with h|h
   ·exact h
   ·rw [bD (by simpa [sc] using h)] at hu;cases hu
  rw [aV];exact hx _ u (by rw [WA xs i j hi hj];exact hu)
theorem ux.snoc {B:Nat} {x:St} (h:dQ w B 2 v (xs.length+1) (MO xs++sc x)):ux w B v (xs++[x]):=by
 unfold ux;rw [Fj,aP];simpa [MO] using h
theorem BM:(prog.info? 30).map (λi=>(i.zero,i.size,i.bytes))=some (some (.agg #[qn,qn]),2,16):=by kernel_rfl
theorem Src.st {g c:Nat} (x:St) (h:Blk w g 30 #[x.1,x.2]):Src prog 2 35 (.slice (some g) 1 c) 1 (sc x) w:=
 Src.ofSlice w underlying35 ⟨g,0,none⟩ 1 c (sc x) rfl (λj u hu=>by
  have:(Addr.mk g 0 none).add j= ⟨g,j,none⟩:=by unfold Addr.add;split <;> simp_all
  rw [this,h.cell];simpa [sc] using hu) (by
  intro u hu;simp [sc] at hu;rcases hu with rfl|rfl <;> rfl)
def Zt (v:Value):Nat:=match v with
 | .slice _ n _=>n
 |_=>0
structure Up (B0:Nat) (w0 wr:World) (M:Nat) (u:Value) (out:List St) (id:St):Prop where
 blk:Blk wr B0 30 #[id.1,id.2]
 met:Met wr M out
 own:ux wr (B0+2) u out
 below:Below B0 w0 wr
theorem Up.stay{B0:Nat} {M:Nat} {out:List St} {id:St} (h:Up B0 w0 wr M u out id) (hb:Below wr wr w') (hs:B0<=wr.heap.size):Up B0 w0 w' M u out id:=
 ⟨h.blk.below hb h.blk.lt,h.met.heap (hb.block M h.met.lt),h.own.below hb,h.below.trans (hb.mono hs)⟩
theorem Up.mark{B0:Nat} {out:List St} {id:St} (h:Up B0 w0 wr (B0+1) u out id) (hg:wr.grownBy w' (some (B0+1))) (hs:B0<=wr.heap.size):Blk w' B0 30 #[id.1,id.2]/\ux w' (B0+2) u out/\Below B0 w0 w':=
 ⟨h.blk.grown hg (λe=>by have:=aX e;omega),h.own.kept hg (by
  rcases hq:u.ownBlock with _|k
  ·exact .inl rfl
  ·exact .inr (by have:=(h.own.ge k hq).1;intro e;have:=aX e;omega)),eY h.below hg (bF _) hs⟩
theorem K4 (s:St) (A:Option Addr) (n c:Nat) (xs:List Nd) (w:World) (hx:lu w A n c xs) (hm:n<=1000000):
  Calls prog 11 #[Qq A n c,sv s] w λe w'=>∃v,e=.returned v/\ux w' w v (oW xs s)/\Below w w w':=by
 obtain ⟨i0,gV,hz0,hz1,hz2⟩:=info_parts BM;have hn:=hx.len;have dV:=dH w (.cells #[s.1,s.2] 30);have hB:=(Blk.new w 30 #[s.1,s.2]).alloc (.map #[] 0);have dY:=dV.alloc dV.size (.map #[] 0);have hM:=Met.new (w.alloc (.cells #[s.1,s.2] 30));rw [show (w.alloc (.cells #[s.1,s.2] 30)).heap.size=w.heap.size+1 from ai _] at hM;have hU:Up w w ((w.alloc (.cells #[s.1,s.2] 30)).alloc (.map #[] 0)) (w.heap.size+1) (.slice none 0 0) [] s:=⟨hB,hM,dQ.nil_ _ _ _,dY⟩;obtain ⟨w1,hw1⟩:=dG ((w.alloc (.cells #[s.1,s.2] 30)).alloc (.map #[] 0));rw [<-hw1] at hU;have HW:=dL hw1;have HX:=dL hx;have HU:=dL hU;have HI:=dL gV;have gx:=dL hz0;have gJ:=dL hz1;have gT:=dL hz2;have hl0:left xs []+([]:List St).length<=xs.length:=wR xs;have ue:left xs [] < xs.length+1:=Nat.lt_succ_of_le (wR xs);have HL0:=dL hl0;have mJ:=dL ue;clear hw1 hx dV dY hB hM gV hz0 hz1 hz2 hU hl0 ue;unfold sv;go_enter func11,ntmps11;go_wp2_with fail;rw [<-HW.o];go_loopw [6] (λu wr=>∃(f:Nat) (out:List St) (id:St),Up w w wr (w.heap.size+1) u out id/\left xs out+out.length<=xs.length/\left xs out < f/\oV xs f out id=oW xs s) (λu _=>xs.length - Zt u)
 case atStart=>exact ⟨_,[],s,HU.o,HL0.o,mJ.o,rfl⟩
 case round=>
  obtain ⟨f,out,id,hU,hl,hf,hR⟩:=hrel;obtain ⟨A2,c2,rfl⟩:=dQ.isSlice hU.own;have hs:w.heap.size<=wr.heap.size:=ag hU.blk.lt;obtain ⟨f,rfl⟩:∃g,f=g+1:=⟨f - 1,by omega⟩;unfold oV at hR;have hlk:=hU.met.look id;have q0:=hU.blk.cell 0;have q1:=hU.blk.cell 1;simp only [aO,aT,aZ] at q0 q1;unfold sv at hlk;have Q9:=dL hU;have HXr:=dL (HX.o.below (hU.below));have agl:=hU.blk.lt;clear hU;by_cases hin:id∈out
  ·rw [if_pos hin] at hR
   have hd:decide (id∈out)=true:=decide_eq_true hin;rw [hd] at hlk;have HR:=dL hR;have hO:=Q9.o.own.mono (Nat.le_add_right w 2);have HO:=dL hO;have HB:=dL Q9.o.below;clear hin hd hR hO;go_wp2_with fail;go_ret;exact ⟨_,rfl,by rw [<-HR.o];exact HO.o,HB.o⟩
  rw [if_neg hin] at hR;have hd:decide (id∈out)=false:=decide_eq_false hin;rw [hd] at hlk;have aeh:=dL hin;clear hin hd;have QA:=DB id A n c xs wr HXr.o;obtain ⟨y,hy⟩:=dG (eX id xs);rw [<-hy] at QA hR;unfold sv nv at QA;have HY:=dL hy;clear hy;cases hh:er id xs with
  |false=>
   rw [hh] at QA hR;simp only [bp,if_false] at hR;have HFd:=dL QA;have HR:=dL hR;have HH:=dL hh;clear QA hR hh;cases hout:out with
   |nil=>
    subst hout;go_wp2_with fail;refine HFd.o.mono ?_;rintro e w2 ⟨rfl,dY⟩;have dn:=Q9.o.below.trans (dY.mono hs);have fI:=dL (dn.alloc dn.size (.cells #[y.id.1,y.id.2,y.dir,y.par.1,y.par.2,y.nm,y.mf] 38));have hR:=HR.o;simp only [if_true] at hR;have HR:=dL hR;clear dY dn hR;go_wp2_with fail;go_ret;exact ⟨_,rfl,by rw [<-HR.o];exact dQ.nil_ _ _ _,fI.o⟩
   |cons o0 or=>
    rw [<-hout];have hone:out≠[]:=by rw [hout];simp
    have hR:=HR.o;rw [if_neg hone] at hR;have HR:=dL hR;have hol:((out.length:Nat):Int)≠0:=by rw [hout];simp;omega
    have agm:(((out.length:Nat):Int) ==0)=false:=beq_eq_false_iff_ne.2 hol;clear hone hR hout;go_wp2_with fail;refine HFd.o.mono ?_;rintro e w2 ⟨rfl,dY⟩;have dn:Below wr wr (w2.alloc (.cells #[y.id.1,y.id.2,y.dir,y.par.1,y.par.2,y.nm,y.mf] 38)):=dY.alloc dY.size _;have Hr:=Q9.o.stay dn hs;have yO:Blk (w2.alloc (.cells #[y.id.1,y.id.2,y.dir,y.par.1,y.par.2,y.nm,y.mf] 38)) w2 38 (nc y).toArray:=Blk.new w2 38 (nc y).toArray;have hs2:wr.heap.size<=w2.heap.size:=dY.size;have hs3:w.heap.size<=(w2.alloc (.cells #[y.id.1,y.id.2,y.dir,y.par.1,y.par.2,y.nm,y.mf] 38)).heap.size:=ag Hr.blk.lt;obtain ⟨w4,UK,Ci,hg4,vP⟩:=Hr.met.add id;obtain ⟨kP,nJ,hb4⟩:=Hr.mark hg4 hs3;have hml:=Q9.o.met.lt;have RB:=yO.grown hg4 (by intro e;have:=aX e;omega);have r0:=Hr.blk.cell 0;have r1:=Hr.blk.cell 1;have t0:=kP.cell 0;have t1:=kP.cell 1;simp only [aO,aT,aZ] at r0 r1 t0 t1;unfold sv at UK;have hs4:w.heap.size+1 < w4.heap.size:=by rw [vP];exact Hr.met.lt
    have hs5:w2.heap.size < w4.heap.size:=RB.lt;have sn:=dL (nJ.alloc (.cells #[id.1,id.2] 30));have fk:=dL (hb4.alloc (ag (Nat.lt_of_succ_lt hs4)) (.cells #[id.1,id.2] 30));have XI:=dL (kP.alloc (.cells #[id.1,id.2] 30));have VE:=dL (RB.alloc (.cells #[id.1,id.2] 30));have B7:=dL (Ci.heap (bM w4 (.cells #[id.1,id.2] 30) _ Ci.lt));have yt:=dL (show w.heap.size+2<=(w4.alloc (.cells #[id.1,id.2] 30)).heap.size by simp;omega);have JT:=dL hs5;have XJ:=dL (show wr.heap.size<=w2.heap.size from hs2);have MT:=dL hs4;have hn6:out.length<=1000000:=by omega
    have HS8:=dL (show w.heap.size < w2.heap.size by omega);have Z8:=dL (show w.heap.size+1 < w2.heap.size by have:=Q9.o.met.lt;omega);clear dY dn Hr yO Ci hg4 vP kP nJ hb4 RB hs2 hs3 hs4 hs5;go_wp2_with (at_builtin;refine dW _ rfl (.tmp 29) (.tmp 31) 35 35 rfl 30 i0 (.agg #[qn,qn]) 2 underlying35 HI.o gx.o gJ.o rfl (by decide) (w.heap.size+2) _ out.length (MO out) rfl sn.o (.slice (some w4) 1 1) rfl 1 (sc id) ?c1 ?c3 ?c4 ?c5 ?_)
    case c1=>exact Src.st id (Blk.new _ _ _)
    case c3=>unfold maxLen;omega
    case c4=>rw [gT.o];omega
    case c5=>exact yt.o
    intro v' w6 hown hgrow fR;have zU:=dL (ux.snoc hown);have qA:=dL (iD fk.o (Nat.le_add_right _ 2) (aI (Nat.le_add_right _ 2) yt.o) sn.o hgrow);have TX:=dL (Blk.grown XI.o hgrow (λe=>by have:=(sn.o.ge _ e.symm).1;omega));have HMn:=dL (B7.o.heap (hgrow.block _ B7.o.lt (λe=>by have:=(sn.o.ge _ e.symm).1;omega)));have QB:(Value.slice A2 out.length c2).ownBlock≠some w2.heap.size:=λe=>by
     have h1:=(Q9.o.own.ge _ e).2;have:=XJ.o;omega
    have abm:=dL (eW (Blk.grown VE.o hgrow (λe=>QB e.symm)));clear hown hgrow fR QB;go_wp2_with fail;go_ret;exact ⟨_,rfl,by rw [<-HR.o];exact zU.o.mono (Nat.le_add_right w 2),qA.o⟩
  |true=>
   rw [hh] at QA hR;simp only [if_true] at hR;have HFd:=dL QA;have HR:=dL hR;have hll:=Ie hh aeh.o;have HLL:=dL hll;clear QA hR hh hll;go_wp2_with fail;refine HFd.o.mono ?_;rintro e w2 ⟨rfl,dY⟩;have dn:Below wr wr (w2.alloc (.cells #[y.id.1,y.id.2,y.dir,y.par.1,y.par.2,y.nm,y.mf] 38)):=dY.alloc dY.size _;have Hr:=Q9.o.stay dn hs;have yO:Blk (w2.alloc (.cells #[y.id.1,y.id.2,y.dir,y.par.1,y.par.2,y.nm,y.mf] 38)) w2 38 (nc y).toArray:=Blk.new w2 38 (nc y).toArray;have hs2:wr.heap.size<=w2.heap.size:=dY.size;have hs3:w.heap.size<=(w2.alloc (.cells #[y.id.1,y.id.2,y.dir,y.par.1,y.par.2,y.nm,y.mf] 38)).heap.size:=ag Hr.blk.lt;obtain ⟨w4,UK,Ci,hg4,vP⟩:=Hr.met.add id;obtain ⟨kP,nJ,hb4⟩:=Hr.mark hg4 hs3;have hml:=Q9.o.met.lt;have RB:=yO.grown hg4 (by intro e;have:=aX e;omega);have r0:=Hr.blk.cell 0;have r1:=Hr.blk.cell 1;have t0:=kP.cell 0;have t1:=kP.cell 1;simp only [aO,aT,aZ] at r0 r1 t0 t1;unfold sv at UK;have hs4:w.heap.size+1 < w4.heap.size:=by rw [vP];exact Hr.met.lt
   have hs5:w2.heap.size < w4.heap.size:=RB.lt;have sn:=dL (nJ.alloc (.cells #[id.1,id.2] 30));have fk:=dL (hb4.alloc (ag (Nat.lt_of_succ_lt hs4)) (.cells #[id.1,id.2] 30));have XI:=dL (kP.alloc (.cells #[id.1,id.2] 30));have VE:=dL (RB.alloc (.cells #[id.1,id.2] 30));have B7:=dL (Ci.heap (bM w4 (.cells #[id.1,id.2] 30) _ Ci.lt));have yt:=dL (show w.heap.size+2<=(w4.alloc (.cells #[id.1,id.2] 30)).heap.size by simp;omega);have JT:=dL hs5;have XJ:=dL (show wr.heap.size<=w2.heap.size from hs2);have MT:=dL hs4;have hn6:out.length<=1000000:=by omega
   have HS8:=dL (show w.heap.size < w2.heap.size by omega);have Z8:=dL (show w.heap.size+1 < w2.heap.size by have:=Q9.o.met.lt;omega);clear dY dn Hr yO Ci hg4 vP kP nJ hb4 RB hs2 hs3 hs4 hs5;go_wp2_with (at_builtin;refine dW _ rfl (.tmp 29) (.tmp 31) 35 35 rfl 30 i0 (.agg #[qn,qn]) 2 underlying35 HI.o gx.o gJ.o rfl (by decide) (w.heap.size+2) _ out.length (MO out) rfl sn.o (.slice (some w4) 1 1) rfl 1 (sc id) ?c1 ?c3 ?c4 ?c5 ?_)
   case c1=>exact Src.st id (Blk.new _ _ _)
   case c3=>unfold maxLen;omega
   case c4=>rw [gT.o];omega
   case c5=>exact yt.o
   intro v' w6 hown hgrow fR;have zU:=dL (ux.snoc hown);have qA:=dL (iD fk.o (Nat.le_add_right _ 2) (aI (Nat.le_add_right _ 2) yt.o) sn.o hgrow);have TX:=dL (Blk.grown XI.o hgrow (λe=>by have:=(sn.o.ge _ e.symm).1;omega));have HMn:=dL (B7.o.heap (hgrow.block _ B7.o.lt (λe=>by have:=(sn.o.ge _ e.symm).1;omega)));have QB:(Value.slice A2 out.length c2).ownBlock≠some w2.heap.size:=λe=>by
    have h1:=(Q9.o.own.ge _ e).2;have:=XJ.o;omega
   have abm:=dL (eW (Blk.grown VE.o hgrow (λe=>QB e.symm)));clear hown hgrow fR QB;have hq:=TX.o;have f0:=hq.frozen 0;have f1:=hq.frozen 1;have g0:=hq.cell 0;have g1:=hq.cell 1;simp only [aO,aT,aZ] at g0 g1;have gw:=Blk.set_ (Blk.set_ hq 0 (.int .i64 y.par.1)) 1 (.int .i64 y.par.2);have gw:Blk ((w6.setCell w y.par.1).setCell (Qc w 1) y.par.2) w 30 #[y.par.1,y.par.2]:=by simpa using gw
   have RC:w6.grownBy ((w6.setCell w y.par.1).setCell (Qc w 1) y.par.2) (some w.heap.size):=dh (p:=Qc w 1) (dh (p:=w) (dz _ _) (.inl rfl) _) (.inl rfl) _;have hUn:Up w w ((w6.setCell w y.par.1).setCell (Qc w 1) y.par.2) (w.heap.size+1) v' (out++[id]) y.par:=
    ⟨gw,HMn.o.heap (RC.block _ HMn.o.lt (by intro e;have:=aX e;omega)),zU.o.kept RC (by
     rcases iC:v'.ownBlock with _|k
     ·exact .inl rfl
     ·exact .inr (by have:=(zU.o.ge k iC).1;intro e;have:=aX e;omega)),eY qA.o RC (aB _) (ag hq.lt)⟩
   have hpar:=abm.o;have HUn:=dL hUn;obtain ⟨A3,c3,rfl⟩:=dQ.isSlice zU.o;clear gw RC hUn hq;go_wp2_with fail;have hLL:=HLL.o;exact ⟨⟨f,out++[id],y.par,HUn.o,by simp;omega,by omega,by rw [HY.o];rw [HY.o] at HR;exact HR.o⟩,by simp [Zt];omega⟩
end
section
open Go.RowKit
attribute [local go_sem] dR dO dS dP
structure Ro (B0 NB:Nat) (w0 wr:World) (u:Value) (out:List St) (id:St) (y:Nd):Prop where
 blk:Blk wr B0 30 #[id.1,id.2]
 node:Blk wr NB 38 (nc y).toArray
 own:ux wr (NB+1) u out
 below:Below B0 w0 wr
variable {u:Value} {id:St} {y:Nd}
theorem Ro.stay{B0 NB:Nat} {w0 wr w':World} {out:List St} (h:Ro B0 NB w0 wr u out id y) (hb:Below wr wr w'):Ro B0 NB w0 w' u out id y:=
 ⟨h.blk.below hb h.blk.lt,h.node.below hb h.node.lt,h.own.below hb,h.below.trans (hb.mono (ag h.blk.lt))⟩
theorem Ro.par{B0 NB:Nat} {w0 wr:World} {out:List St} (h:Ro B0 NB w0 wr u out id y) (hBN:B0 < NB) (p:St):Ro B0 NB w0 ((wr.setCell B0 p.1).setCell (Qc B0 1) p.2) u out p y:=by
 have gw:=Blk.set_ (Blk.set_ h.blk 0 (.int .i64 p.1)) 1 (.int .i64 p.2);have RC:wr.grownBy ((wr.setCell B0 p.1).setCell (Qc B0 1) p.2) (some B0):=dh (p:=Qc B0 1) (dh (p:=B0) (dz _ _) (.inl rfl) _) (.inl rfl) _;exact ⟨by simpa using gw,h.node.grown RC (λe=>by have:=aX e;omega),h.own.kept RC (by
  rcases iC:u.ownBlock with _|k
  ·exact .inl rfl
  ·exact .inr (by have:=(h.own.ge k iC).1;intro e;have:=aX e;omega)),eY h.below RC (aB _) (ag h.blk.lt)⟩
theorem qg (w:World) (B:Nat) (x:Nd):w.grownBy (jJ w B x) (some B):=
 dh (p:=Qc B 6) (dh (p:=Qc B 5) (dh (p:=Qc B 4) (dh (p:=Qc B 3) (dh (p:=Qc B 2) (dh (p:=Qc B 1) (dh (p:=B) (dz _ _) (.inl rfl) _) (.inl rfl) _) (.inl rfl) _) (.inl rfl) _) (.inl rfl) _) (.inl rfl) _) (.inl rfl) _
theorem Ro.turn{B0 NB:Nat} {w0 wr:World} {out:List St} (h:Ro B0 NB w0 wr u out id y) (hBN:B0 < NB) (z:Nd):Ro B0 NB w0 (jJ wr NB z) u out id z:=
 ⟨h.blk.grown (qg wr NB z) (λe=>by have:=aX e;omega),jw z h.node,h.own.kept (qg wr NB z) (by
  rcases iC:u.ownBlock with _|k
  ·exact .inl rfl
  ·exact .inr (by have:=(h.own.ge k iC).1;intro e;have:=aX e;omega)),eY h.below (qg wr NB z) (ag hBN) (ag h.blk.lt)⟩
end
section
open Go.RowKit
attribute [local go_sem] dR dO dS dP
theorem rO (xs:List Nd):∀u∈jU xs,u.oneCell'=true:=by
 intro u hu;obtain ⟨x,_,h⟩:=List.mem_flatMap.1 hu;exact oU x u h
theorem Src.nds {w:World} {A:Option Addr} {n c:Nat} {xs:List Nd} (h:lu w A n c xs):Src prog 7 33 (.slice A n c) n (jU xs) w:=by
 have hn:=h.len;cases hx:xs with
 |nil=>
  rw [hx] at hn;obtain rfl:n=0:=by simpa using hn.symm
  cases A with
  |none=>exact Src.ofNil w underlying33 c
  |some a=>exact Src.ofSlice w underlying33 a 0 c [] rfl (λj u hu=>by simp at hu) (λu hu=>by cases hu)
 |cons x0 r=>
  rw [<-hx];have h0:0 < xs.length:=by rw [hx];simp
  obtain ⟨b,off,cs,rfl,_⟩:=h.4 0 h0;refine Src.ofSlice w underlying33 ⟨b,off,none⟩ n c (jU xs) (by rw [ia,hn]) (λj u hu=>?_) (rO xs);have kL:(Addr.mk b off none).add j= ⟨b,off+j,none⟩:=by unfold Addr.add;split <;> simp_all
  rw [kL];have hj:j < xs.length*7:=by
   rcases aD j (xs.length*7) with h|h
   ·exact h
   ·rw [bD (by rw [ia];exact h)] at hu;cases hu
  have hk:j / 7 < xs.length:=by omega
  obtain ⟨b2,off2,cs2,e2,_,_,⟨rfl,_⟩,hc⟩:=h.4 (j / 7) hk;cases e2;have hu2:(nc xs[j / 7])[j % 7]? =some u:=by
   rw [<-qd xs (j / 7) (j % 7) hk (Nat.mod_lt _ (by decide)),show j / 7*7+j % 7=j by omega];exact hu
  have:=hc _ u hu2;rw [show off+j / 7*7+j % 7=off+j by omega] at this;exact this
theorem j9 (A:Option Addr) (n c:Nat) (xs:List Nd) (w:World) (hx:lu w A n c xs) (hm:n<=1000000):
  Calls prog 111 #[Qq A n c] w λe w'=>∃v,e=.returned v/\Own w' w v xs/\Below w w w':=by
 obtain ⟨i0,gV,hz0,hz1,hz2⟩:=info_parts qf;have hn:=hx.len;cases A with
 |none=>
  have h0:xs=[]:=by
   cases hxs:xs with
   |nil=>rfl
   |cons x r=>
    obtain ⟨b,off,cs,e,_⟩:=hx.4 0 (by rw [hxs];simp);cases e
  subst h0;clear hx gV hz0 hz1 hz2;have he:=λw=>Lib.run_eql_slice_nil (P:=prog) w 33 38 none n c 0 0 underlying33
  go_enter func111,ntmps111;go_wp2_with fail;go_ret;exact ⟨_,rfl,dQ.nil_ _ _ _,aC _ _⟩
 |some a=>
  have dV:=dH w (.cells #[] 38);have hO:dQ (w.alloc (.cells #[] 38)) w 7 (.slice (some w) 0 0) 0 []:=
   ⟨rfl,.inr ⟨w.heap.size,0,rfl,aB _,by simp,aB _,by decide,λj hj=>by omega,λj hj=>by omega,λj u hu=>by simp at hu⟩⟩
  have hS:=Src.nds (hx.below dV);have HB:=dL dV;have HO:=dL hO;have HS:=dL hS;have HI:=dL gV;have gx:=dL hz0;have gJ:=dL hz1;have gT:=dL hz2;clear hx dV hO hS gV hz0 hz1 hz2;have he:=λw=>Lib.run_eql_slice_nil (P:=prog) w 33 38 (some a) n c 0 0 underlying33
  go_enter func111,ntmps111;go_wp2_with (at_builtin;refine dW _ rfl (.tmp 5) (.tmp 6) 33 33 rfl 38 i0 (.agg #[qn,qn,false,qn,qn,yj,yj]) 7 underlying33 HI.o gx.o gJ.o rfl (by decide) w _ 0 [] rfl HO.o (.slice (some a) n c) rfl n (jU xs) ?c1 ?c3 ?c4 ?c5 ?_)
  case c1=>exact HS.o
  case c3=>unfold maxLen;omega
  case c4=>rw [gT.o];omega
  case c5=>simp
  intro v' w3 hown hgrow fR;have zU:=dL (show Own w3 w v' xs by unfold Own;rw [hn];simpa using hown);have qA:=dL (iD HB.o (aB _) (by simp) HO.o hgrow);clear hown hgrow fR;go_wp2_with fail;go_ret;exact ⟨_,rfl,zU.o,qA.o⟩
end
section
open Go.RowKit
attribute [local go_sem] dR dO dS dP
structure dX where
 st:St
 seq:Int
 kind:Int
 node:St
 dir:Bool
 par:St
 nm:List UInt8
 mf:List UInt8
deriving DecidableEq
instance:Inhabited dX:=⟨⟨(0,0),0,0,(0,0),false,(0,0),[],[]⟩⟩
def oc (x:dX):List Value:=[.int .i64 x.st.1,.int .i64 x.st.2,.int .i64 x.seq,.int .i64 x.kind,.int .i64 x.node.1,.int .i64 x.node.2,.bool x.dir,.int .i64 x.par.1,.int .i64 x.par.2,.string (bs x.nm),.string (bs x.mf)]
def ov (x:dX):Value:=.agg #[x.st.1,x.st.2,x.seq,x.kind,x.node.1,x.node.2,x.dir,x.par.1,x.par.2,x.nm,x.mf]
theorem dN {w w1:World} {x:dX} (h:w1=w.alloc (.cells (oc x).toArray 32)):w1=w.alloc (.cells #[x.st.1,x.st.2,x.seq,x.kind,x.node.1,x.node.2,x.dir,x.par.1,x.par.2,x.nm,x.mf] 32):=h
theorem ND (q:Nat) (y x:Nd) (w:World) (hq:Blk w q 38 (nc y).toArray):
  Calls prog 162 #[nv x,Qp q] w (dM w (.bool (di y.id x.id))):=by
 have hb:=dH w (.cells (nc x).toArray 38);have hq1:=hq.alloc (.cells (nc x).toArray 38);have hB:=Blk.new w 38 (nc x).toArray;obtain ⟨c0,c1,_⟩:=eW hq1;obtain ⟨e0,e1,_⟩:=eW hB;have hl:=rN y.id x.id (w.alloc (.cells (nc x).toArray 38));unfold sv nc at hl;unfold nc at c0 c1 e0 e1 hb;have HL:=dL hl;have HB:=dL hb;clear hb hB hq hq1 hl;unfold nv;go_enter func162,ntmps162;go_wp2_with fail;refine HL.o.mono ?_;rintro e w2 ⟨rfl,dY⟩;have dn:=HB.o.trans (dY.mono HB.o.size);go_wp2_with fail;go_ret;exact ⟨rfl,dn⟩
end
section
open Go.RowKit
attribute [local go_sem] dR dO dS dP
theorem Fk (q:Nat) (y:Nd) (A:Option Addr) (n c:Nat) (xs:List Nd) (w:World) (hx:lu w A n c xs) (hq:Blk w q 38 (nc y).toArray):
  Calls prog 100 #[Qq A n c,.func (.func 162) #[] #[.pointer (some ⟨q,0,none⟩)]] w (dM w (.int .i64 (fS (λz=>di y.id z.id) xs))):=by
 have FV:=hq.lt;have hn:=hx.len;have lg:=hx.max;have hle:=hx.le;have HX:=dL hx;have HQ:=dL hq;clear hx hq;go_enter func100,ntmps100;go_wp2_with fail;go_loopw [8] (λi wr=>∃k:Nat,k<=xs.length/\i=.int .i64 k/\Below w w wr/\∀j (hj:j < xs.length),j < k->di y.id xs[j].id=false) (λi _=>xs.length - (intOf i).toNat)
 case atStart=>exact ⟨0,by omega,rfl,aC _ _,λj _ h=>by omega⟩
 case round=>
  obtain ⟨k,hk,rfl,hb,hall⟩:=hrel;rcases aD k xs.length with hlt|hge
  ·obtain ⟨b,off,rfl,jW,c0,c1,c2,c3,c4,c5,c6,_⟩:=lu.at_ (HX.o.below hb) hlt
   have JS:=HQ.o.below hb FV;have HA:=dL hall;have hcl:=ND q y xs[k] wr JS;obtain ⟨x,hx⟩:∃x,xs[k]=x:=⟨_,rfl⟩;rw [hx] at c0 c1 c2 c3 c4 c5 c6 hcl;unfold nv at hcl;have wB:=dL hcl;have nB:=dL hx;have HB:=dL hb;have hki:(k:Int) < (n:Int):=by omega
   clear hall hx hb JS hcl;go_wp2_with fail;refine wB.o.mono ?_;rintro e w2 ⟨rfl,dY⟩;have dn:=HB.o.trans (dY.mono HB.o.size);cases hc:di y.id x.id with
   |true=>
    go_wp2_with fail;have dy:fS (λz=>di y.id z.id) xs=k:=sx hlt (by show di y.id xs[k].id=true;rw [nB.o];exact hc) HA.o;go_ret;exact ⟨by rw [dy];rfl,dn⟩
   |false=>
    go_wp2_with fail;exact ⟨⟨k+1,by omega,by go_num,dn,λj hj hjk=>by
     by_cases e:j=k
     ·subst e;rw [nB.o];exact hc
     ·exact HA.o j hj (by omega)⟩,by simp [intOf];omega⟩
  ·have hkn:¬ (k:Int) < (n:Int):=by omega
   have dy:fS (λz=>di y.id z.id) xs= -1:=uH λj hj=>hall j hj (by omega)
   clear hall;go_wp2_with fail;go_ret;exact ⟨rfl,hb⟩
end
section
open Go.RowKit
attribute [local go_sem] dR dO dS dP
def OpC (cs:List Value) (x:dX):Prop:=cs=oc x/\x.nm.length<=9223372036854775807/\x.mf.length<=9223372036854775807
abbrev mR (w:World) (A:Option Addr) (n c:Nat) (xs:List dX):Prop:=Sl w 11 OpC A n c xs
theorem mR.at_ {w:World} {A:Option Addr} {n c k:Nat} {xs:List dX} (h:mR w A n c xs) (hk:k < xs.length):
  ∃b off,A=some ⟨b,off,none⟩/\b < w.heap.size/\w.cell? ⟨b,off+k*11,none⟩=some (.int .i64 xs[k].st.1)/\w.cell? ⟨b,off+k*11+1,none⟩=some (.int .i64 xs[k].st.2)/\w.cell? ⟨b,off+k*11+2,none⟩=some (.int .i64 xs[k].seq)/\w.cell? ⟨b,off+k*11+3,none⟩=some (.int .i64 xs[k].kind)/\w.cell? ⟨b,off+k*11+4,none⟩=some (.int .i64 xs[k].node.1)/\w.cell? ⟨b,off+k*11+5,none⟩=some (.int .i64 xs[k].node.2)/\w.cell? ⟨b,off+k*11+6,none⟩=some (.bool xs[k].dir)/\w.cell? ⟨b,off+k*11+7,none⟩=some (.int .i64 xs[k].par.1)/\w.cell? ⟨b,off+k*11+8,none⟩=some (.int .i64 xs[k].par.2)/\w.cell? ⟨b,off+k*11+9,none⟩=some (.string (bs xs[k].nm))/\w.cell? ⟨b,off+k*11+10,none⟩=some (.string (bs xs[k].mf))/\xs[k].nm.length<=9223372036854775807/\xs[k].mf.length<=9223372036854775807:=by
 obtain ⟨b,off,cs,e,hlt,hl,⟨rfl,Eu,hr2⟩,hc⟩:=h.4 k hk;exact ⟨b,off,e,hlt,by have:=hc 0 _ rfl;simpa using this,hc 1 _ rfl,hc 2 _ rfl,hc 3 _ rfl,hc 4 _ rfl,hc 5 _ rfl,hc 6 _ rfl,hc 7 _ rfl,hc 8 _ rfl,hc 9 _ rfl,hc 10 _ rfl,Eu,hr2⟩
end
section
def DG (xs:List Nd) (x:dX) (y:Nd):Option Nd:=
 if x.kind=2 then (if gM x.par xs && !decide (x.node∈oW xs x.par) then some { y with par:=x.par,nm:=x.nm } else none)
 else if x.kind=3 then (if y.dir then none else some { y with mf:=x.mf })
 else if x.kind=4 then some { y with par:=(0,1) }
 else none
def rF (xs:List Nd) (s:St):Nat:=(xs.findIdx? λz=>di s z.id).getD xs.length
def gI (xs:List Nd) (y:Nd):List Nd:=xs.take (rF xs y.id)++y :: xs.drop (rF xs y.id)
def uI (xs:List Nd) (x:dX):List Nd:=
 match xs.findIdx? (eZ x.node) with
 |none=>if x.kind=1 then gI xs ⟨x.node,x.dir,if gM x.par xs then x.par else (0,1),x.nm,x.mf⟩ else xs
 |some i=>if x.kind=1 then xs else match DG xs x (xs.getD i nd0) with
  |some y=>xs.set i y
  |none=>xs
def fL (l:List dX):List Nd:=l.foldl uI []
theorem K6 (xs:List Nd) (s:St):(rF xs s:Int)=if fS (λz=>di s z.id) xs < 0 then (xs.length:Int) else fS (λz=>di s z.id) xs:=by
 unfold rF fS;cases xs.findIdx? (λz=>di s z.id) with
 |none=>rfl
 |some k=>simp;omega
end
section
open Go.RowKit
attribute [local go_sem] dR dO dS dP
theorem NF (s:St) (A:Option Addr) (n c:Nat) (xs:List Nd) (w:World) (hx:lu w A n c xs) (hm:n<=1000000):
  Calls prog 45 #[Qq A n c,sv s] w λe w'=>∃v,e=.returned v/\Own w' w v (fo s xs)/\Below w w w':=by
 obtain ⟨i0,gV,hz0,hz1,hz2⟩:=info_parts qf;have hn:=hx.len;have lg:=hx.max;have hle:=hx.le;have dV:=dH w (.cells #[s.1,s.2] 30);have hB:=Blk.new w 30 #[s.1,s.2];obtain ⟨w1,hw1⟩:=dG (w.alloc (.cells #[s.1,s.2] 30));have hsz:w1.heap.size=w.heap.size+1:=by rw [hw1];exact ai _
 rw [<-hw1] at dV hB;have HW:=dL hw1;have HX:=dL hx;have eR:=dL dV;have mK:=dL hB;have HI:=dL gV;have gx:=dL hz0;have gJ:=dL hz1;have gT:=dL hz2;have zV:=dL hsz;clear hw1 hx dV hB gV hz0 hz1 hz2 hsz;unfold sv;go_enter func45,ntmps45;go_wp2_with fail;rw [<-HW.o];go_loopw [5,10] (λu i wr=>∃k:Nat,k<=n/\i=.int .i64 k/\Own wr (w.heap.size+1) u (fo s (xs.take k))/\Below w w wr/\Blk wr w 30 #[s.1,s.2]) (λ_ i _=>n - (intOf i).toNat)
 case atStart=>exact ⟨0,by omega,rfl,dQ.nil_ _ _ _,eR.o,mK.o⟩
 case round=>
  obtain ⟨k,hk,rfl,hO,hb,pM⟩:=hrel;have kE:=pM.lt;have q0:=pM.cell 0;have q1:=pM.cell 1;simp only [aO,aT,aZ] at q0 q1;rcases aD k n with hlt|hge
  ·obtain ⟨b,off,rfl,jW,c0,c1,c2,c3,c4,c5,c6,_⟩:=lu.at_ (HX.o.below hb) (by omega:k < xs.length)
   have hnext:=K0 s xs k (by omega);have hkl:=NA s xs k;generalize xs[k]=x at*;have hki:(k:Int) < (n:Int):=by omega
   have he:=iE x.par s;have fD:=Blk.new wr 38 (nc x).toArray;have q0:=cell?_alloc_old q0 (.cells (nc x).toArray 38);have q1:=cell?_alloc_old q1 (.cells (nc x).toArray 38);have g:=eW fD;obtain ⟨A2,YX,rfl⟩:=dQ.isSlice hO;have RD:=dQ.alloc hO (.cells (nc x).toArray 38);have dY:=hb.alloc hb.size (.cells (nc x).toArray 38);have XK:=pM.alloc (.cells (nc x).toArray 38);obtain ⟨w2,eV⟩:=dG (wr.alloc (.cells (nc x).toArray 38));rw [<-eV] at q0 q1 g RD dY XK;obtain ⟨g0,g1,g2,g3,g4,g5,g6⟩:=g;have agn:wr.heap.size < w2.heap.size:=eB g0;have rH:=dL (show w2=wr.alloc (.cells #[x.id.1,x.id.2,x.dir,x.par.1,x.par.2,x.nm,x.mf] 38) from eV);have zW:=dL RD;have eA:=dL dY;have TY:=dL XK;clear hO RD hb dY pM XK eV fD;by_cases hp:x.par=s
   ·have hd:decide (x.par=s)=true:=decide_eq_true hp
    rw [if_pos hp] at hnext;have vN:=dL hnext;simp only [hd] at he;clear hp hd hnext;have oM:=rH.o ▸ zW.o;have vO:=rH.o ▸ eA.o;have abn:=rH.o ▸ TY.o;have nJ:=dQ.alloc oM (.cells (nc x).toArray 38);have kP:=vO.alloc vO.size (.cells (nc x).toArray 38);have abo:=abn.alloc (.cells (nc x).toArray 38);have hge:=dQ.ge nJ;have vP:w.heap.size+1<=((wr.alloc (.cells #[x.id.1,x.id.2,x.dir,x.par.1,x.par.2,x.nm,x.mf] 38)).alloc (.cells (nc x).toArray 38)).heap.size:=by simp;omega
    have rI:=dL nJ;have fI:=dL kP;have aei:=dL abo;have HGe:=dL hge;have Hs:=dL vP;clear oM vO abn nJ kP abo hge vP;go_wp2_with (at_builtin;refine dW _ rfl (.tmp 18) (.tmp 20) 33 33 rfl 38 i0 (.agg #[qn,qn,false,qn,qn,yj,yj]) 7 underlying33 HI.o gx.o gJ.o rfl (by decide) (w.heap.size+1) _ (fo s (xs.take k)).length (jU (fo s (xs.take k))) rfl rI.o (.slice (some ⟨wr.heap.size+1,0,none⟩) 1 1) rfl 1 (nc x) ?c1 ?c3 ?c4 ?c5 ?_)
    case c1=>exact Src.nd x (Blk.new2 _ _ _ _)
    case c3=>unfold maxLen;omega
    case c4=>rw [gT.o];omega
    case c5=>exact Hs.o
    intro v' w3 hown hgrow fR;have zU:=dL (Own.snoc hown);have qA:=dL (iD fI.o (bF _) (Nat.le_of_succ_le Hs.o) rI.o hgrow);have TX:=dL (Blk.grown aei.o hgrow (λe=>by have:=(HGe.o _ e.symm).1;omega));clear hown hgrow fR;go_wp2_with fail;exact ⟨⟨k+1,by omega,by go_num,by rw [vN.o];exact zU.o,qA.o,TX.o⟩,by simp [intOf];omega⟩
   ·have hd:decide (x.par=s)=false:=decide_eq_false hp
    rw [if_neg hp,bG] at hnext;have vN:=dL hnext;simp only [hd] at he;clear hp hd hnext;go_wp2_with fail;rw [<-rH.o];go_wp2_with fail;exact ⟨⟨k+1,by omega,by go_num,by rw [vN.o];exact zW.o,eA.o,TY.o⟩,by simp [intOf];omega⟩
  ·have hkn:¬ (k:Int) < (n:Int):=by omega
   have dy:xs.take k=xs:=af (by omega);rw [dy] at hO;have HO:=dL hO;have HB:=dL hb;clear hO hb pM dy;go_wp2_with fail;go_ret;exact ⟨_,rfl,HO.o.mono (bF _),HB.o⟩
end
end Go.Proofs.YtgdaahffmcfhpaaGreatDoor
