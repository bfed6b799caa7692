/- Lemmas on the way: VTa Ki. -/
import Derived.Deep.RegionHeld3
import Derived.Deep.RegionLaw
import Derived.Lib.SliceRun
import Derived.Test.YtgdaahffmcfhpaaGreatDoorT02
import Derived.Test.YtgdaahffmcfhpaaGreatDoorT00
set_option maxRecDepth 100000
set_option maxHeartbeats 8000000
namespace Go.Proofs.YtgdaahffmcfhpaaGreatDoor
open Tryz
section
open Go.RowKit
attribute [local go_sem] dO dL dQ dM
theorem cell?_alloc_old {w:World} {g i:Nat} {u:Value} (h:w.cell? ⟨g,i,none⟩=some u) (o:Obj):(w.alloc o).cell? ⟨g,i,none⟩=some u:=by
 rw [World.cell?_alloc_past _ _ _ (dn h)];exact h
abbrev St:=Int×Int
structure Nd where
 id:St
 dir:Bool
 par:St
 nm:List UInt8
 mf:List UInt8
deriving DecidableEq
instance:Inhabited Nd:=⟨⟨(0,0),false,(0,0),[],[]⟩⟩
def nd0:Nd:=⟨(0,0),false,(0,0),[],[]⟩
def nc (x:Nd):List Value:=[.int .i64 x.id.1,.int .i64 x.id.2,.bool x.dir,.int .i64 x.par.1,.int .i64 x.par.2,.string (bs x.nm),.string (bs x.mf)]
def nv (x:Nd):Value:=.agg #[.int .i64 x.id.1,.int .i64 x.id.2,.bool x.dir,.int .i64 x.par.1,.int .i64 x.par.2,.string (bs x.nm),.string (bs x.mf)]
def sv (s:St):Value:=.agg #[.int .i64 s.1,.int .i64 s.2]
def NdC (cs:List Value) (x:Nd):Prop:=cs=nc x/\x.nm.length<=9223372036854775807/\x.mf.length<=9223372036854775807
abbrev lq (w:World) (A:Option Addr) (n c:Nat) (xs:List Nd):Prop:=Sl w 7 NdC A n c xs
theorem lq.at_ {w:World} {A:Option Addr} {n c k:Nat} {xs:List Nd} (h:lq w A n c xs) (hk:k < xs.length):
  ∃b off,A=some ⟨b,off,none⟩/\b < w.heap.size/\w.cell? ⟨b,off+k*7,none⟩=some (.int .i64 xs[k].id.1)/\w.cell? ⟨b,off+k*7+1,none⟩=some (.int .i64 xs[k].id.2)/\w.cell? ⟨b,off+k*7+2,none⟩=some (.bool xs[k].dir)/\
   w.cell? ⟨b,off+k*7+3,none⟩=some (.int .i64 xs[k].par.1)/\w.cell? ⟨b,off+k*7+4,none⟩=some (.int .i64 xs[k].par.2)/\w.cell? ⟨b,off+k*7+5,none⟩=some (.string (bs xs[k].nm))/\w.cell? ⟨b,off+k*7+6,none⟩=some (.string (bs xs[k].mf))/\
   xs[k].nm.length<=9223372036854775807/\xs[k].mf.length<=9223372036854775807:=by
 obtain ⟨b,off,cs,e,hlt,hl,⟨rfl,Dj,hr2⟩,hc⟩:=h.4 k hk;exact ⟨b,off,e,hlt,by have:=hc 0 _ rfl;simpa using this,hc 1 _ rfl,hc 2 _ rfl,hc 3 _ rfl,hc 4 _ rfl,hc 5 _ rfl,hc 6 _ rfl,Dj,hr2⟩
def en (s:St) (x:Nd):Bool:=decide (x.id=s)
def fH (p:Nd->Bool) (xs:List Nd):Int:=match xs.findIdx? p with
 |some i=>i
 |none=>-1
theorem rX {p:Nd->Bool} {xs:List Nd} {k:Nat} (hk:k < xs.length) (h:p xs[k]=true) (hall:∀j (hj:j < xs.length),j < k->p xs[j]=false):fH p xs=k:=by
 have h1:xs.findIdx? p=some k:=by
  rw [bB];exact ⟨hk,h,fun j hj=>by rw [hall j (by omega) hj];simp⟩
 unfold fH;rw [h1]
theorem sw {p:Nd->Bool} {xs:List Nd} (hall:∀j (hj:j < xs.length),p xs[j]=false):fH p xs= -1:=by
 have h1:xs.findIdx? p=none:=by
  rw [bP];intro x hx;obtain ⟨j,hj,rfl⟩:=bY.1 hx;exact hall j hj
 unfold fH;rw [h1]
theorem gq (p:Nd->Bool) (xs:List Nd):(∃k:Nat,∃hk:k < xs.length,fH p xs=k/\p xs[k]=true)\/(fH p xs= -1/\∀x∈xs,p x=false):=by
 unfold fH;cases h:xs.findIdx? p with
 |none=>exact .inr ⟨rfl,bP.1 h⟩
 |some k=>
  obtain ⟨hk,h1,_⟩:=bB.1 h;exact .inl ⟨k,hk,rfl,h1⟩
def eP (s:St) (xs:List Nd):Nd:=(xs.find? (en s)).getD nd0
def ek (s:St) (xs:List Nd):Bool:=(xs.find? (en s)).isSome
theorem GX {s:St} {xs:List Nd} {k:Nat} (hk:k < xs.length) (h:fH (en s) xs=k):eP s xs=xs[k]/\ek s xs=true:=by
 have h1:xs.findIdx? (en s)=some k:=by
  unfold fH at h;cases hf:xs.findIdx? (en s) with
  |none=>rw [hf] at h;have h:(-1:Int)=k:=h;omega
  |some i=>rw [hf] at h;have h:(i:Int)=k:=h;congr 1;omega
 obtain ⟨_,h2,h3⟩:=bB.1 h1;have h4:xs.find? (en s)=some xs[k]:=by
  rw [List.find?_eq_some_iff_getElem];exact ⟨h2,k,hk,rfl,fun j hj=>by have:=h3 j hj;simpa using this⟩
 exact ⟨by rw [eP,h4];rfl,by rw [ek,h4];rfl⟩
theorem Pq {s:St} {xs:List Nd} (h:fH (en s) xs= -1):eP s xs=nd0/\ek s xs=false:=by
 rcases gq (en s) xs with ⟨k,_,h1,_⟩| ⟨_,h1⟩
 ·rw [h] at h1;omega
 ·have h4:xs.find? (en s)=none:=List.find?_eq_none.2 fun x hx=>by rw [h1 x hx];simp
  exact ⟨by rw [eP,h4];rfl,by rw [ek,h4];rfl⟩
theorem gU (a b:St) (w:World):(binOp .eql 30 (.agg #[.int .i64 a.1,.int .i64 a.2]) (.agg #[.int .i64 b.1,.int .i64 b.2])).run prog w=.ok (.bool (decide (a=b))) w:=by
 obtain ⟨a1,a2⟩:=a;obtain ⟨b1,b2⟩:=b;by_cases h1:a1=b1 <;> by_cases h2:a2=b2 <;> simp [go_sem,h1,h2]
theorem TX (q:Nat) (s:St) (x:Nd) (w:World) (hq:w.cell? ⟨q,0,none⟩=some (.int .i64 s.1)) (hq1:w.cell? ⟨q,1,none⟩=some (.int .i64 s.2)):
  Calls prog 101 #[nv x,.pointer (some ⟨q,0,none⟩)] w (dJ w (.bool (en s x))):=by
 have hl:=dn hq;obtain ⟨w1,hw1⟩:=dB (w.alloc (.cells (nc x).toArray 38));have hB:=Blk.new w 38 (nc x).toArray;have hb:=dD w (.cells (nc x).toArray 38);have hc:=cell?_alloc_old hq (.cells (nc x).toArray 38);have hc1:=cell?_alloc_old hq1 (.cells (nc x).toArray 38);rw [<-hw1] at hB hb hc hc1;have e0:=hB.cell 0;have e1:=hB.cell 1;unfold nc at hw1 e0 e1;simp only [aP,aS,aW] at e0 e1;have he:=gU x.id s;have HW:=dH hw1;have HB:=dH hb;clear hw1 hb hB;unfold nv;go_enter func101,ntmps101;go_wp2_with fail;rw [<-HW.o];go_wp2_with fail;go_ret;exact ⟨rfl,HB.o⟩
end
section
open Go.RowKit
attribute [local go_sem] dO dL dQ dM
theorem below_drewN {B:Nat} {w0 w:World} (h:Below B w0 w) (n:Nat):Below B w0 (w.drewN n):=⟨h.os,h.tape,h.output,h.size,h.block⟩
theorem LG (q:Nat) (s:St) (A:Option Addr) (n c:Nat) (xs:List Nd) (w:World) (hx:lq w A n c xs) (hq:w.cell? ⟨q,0,none⟩=some (.int .i64 s.1)) (hq1:w.cell? ⟨q,1,none⟩=some (.int .i64 s.2)):
  Calls prog 100 #[.slice A n c,.func (.func 101) #[] #[.pointer (some ⟨q,0,none⟩)]] w (dJ w (.int .i64 (fH (en s) xs))):=by
 have De:=dn hq;have hn:=hx.len;have qJ:=hx.max;have hle:=hx.le;have HX:=dH hx;have HQ:=dH hq;have xM:=dH hq1;clear hx hq hq1;go_enter func100,ntmps100;go_wp2_with fail;go_loopw [8] (fun i wr=>∃k:Nat,k<=xs.length/\i=.int .i64 k/\Below w.heap.size w wr/\∀j (hj:j < xs.length),j < k->en s xs[j]=false) (fun i _=>xs.length - (intOf i).toNat)
 case atStart=>exact ⟨0,by omega,rfl,aC _ _,fun j _ h=>by omega⟩
 case round=>
  obtain ⟨k,hk,rfl,hb,hall⟩:=hrel;rcases aG k xs.length with hlt|hge
  ·obtain ⟨b,off,rfl,jY,c0,c1,c2,c3,c4,c5,c6,_⟩:=lq.at_ (HX.o.below hb) hlt
   have Ny:=dP hb De HQ.o;have Yb:=dP hb De xM.o;have HA:=dH hall;have hcl:=TX q s xs[k] wr Ny Yb;obtain ⟨x,hx⟩:∃x,xs[k]=x:=⟨_,rfl⟩;rw [hx] at c0 c1 c2 c3 c4 c5 c6 hcl;unfold nv at hcl;have BA:=dH hcl;have tV:=dH hx;have HB:=dH hb;have hki:(k:Int) < (n:Int):=by omega
   clear hall hx hb Ny Yb hcl;go_wp2_with fail;refine BA.o.mono ?_;rintro e w2 ⟨rfl,dS⟩;have di:=HB.o.trans (dS.mono HB.o.size);cases hc:en s x with
   |true=>
    go_wp2_with fail;have eC:fH (en s) xs=k:=rX hlt (by rw [tV.o];exact hc) HA.o;go_ret;exact ⟨by rw [eC];rfl,di⟩
   |false=>
    go_wp2_with fail;exact ⟨⟨k+1,by omega,by go_num,di,fun j hj hjk=>by
     by_cases e:j=k
     ·subst e;rw [tV.o];exact hc
     ·exact HA.o j hj (by omega)⟩,by simp [intOf];omega⟩
  ·have hkn:¬ (k:Int) < (n:Int):=by omega
   have eC:fH (en s) xs= -1:=sw fun j hj=>hall j hj (by omega)
   clear hall;go_wp2_with fail;go_ret;exact ⟨rfl,hb⟩
theorem yT (s:St) (A:Option Addr) (n c:Nat) (xs:List Nd) (w:World) (hx:lq w A n c xs):
  Calls prog 53 #[.slice A n c,sv s] w (dJ w (.int .i64 (fH (en s) xs))):=by
 have dR:=dD w (.cells #[.int .i64 s.1,.int .i64 s.2] 30);have hB:=Blk.new w 30 #[.int .i64 s.1,.int .i64 s.2];have h1:=LG w.heap.size s A n c xs _ (hx.below dR) (hB.cell 0) (hB.cell 1);have H1:=dH h1;have HB:=dH dR;clear h1 dR hB hx;unfold sv;go_enter func53,ntmps53;go_wp2_with fail;refine H1.o.mono ?_;rintro e w2 ⟨rfl,dS⟩;have di:=HB.o.trans (dS.mono HB.o.size);go_wp2_with fail;go_ret;exact ⟨rfl,di⟩
end
section
open Go.RowKit
attribute [local go_sem] dO dL dQ dM
def jI (w:World) (B:Nat) (x:Nd):World:=((((((w.setCell ⟨B,0,none⟩ (.int .i64 x.id.1)).setCell ⟨B,1,none⟩ (.int .i64 x.id.2)).setCell ⟨B,2,none⟩ (.bool x.dir)).setCell ⟨B,3,none⟩ (.int .i64 x.par.1)).setCell ⟨B,4,none⟩ (.int .i64 x.par.2)).setCell ⟨B,5,none⟩ (.string (bs x.nm))).setCell ⟨B,6,none⟩ (.string (bs x.mf))
theorem kR {w:World} {B:Nat} {y:Nd} (x:Nd) (h:Blk w B 38 (nc y).toArray):Blk (jI w B x) B 38 (nc x).toArray:=by
 have:=Blk.set_ (Blk.set_ (Blk.set_ (Blk.set_ (Blk.set_ (Blk.set_ (Blk.set_ h 0 (.int .i64 x.id.1)) 1 (.int .i64 x.id.2)) 2 (.bool x.dir)) 3 (.int .i64 x.par.1)) 4 (.int .i64 x.par.2)) 5 (.string (bs x.nm))) 6 (.string (bs x.mf));unfold jI;simpa [nc] using this
theorem iL {B0:Nat} {w0 w:World} (h:Below B0 w0 w) {B:Nat} (hB:B0<=B) (x:Nd):Below B0 w0 (jI w B x):=
 ((((((h.setCell (p:=⟨B,0,none⟩) hB _).setCell (p:=⟨B,1,none⟩) hB _).setCell (p:=⟨B,2,none⟩) hB _).setCell (p:=⟨B,3,none⟩) hB _).setCell (p:=⟨B,4,none⟩) hB _).setCell (p:=⟨B,5,none⟩) hB _).setCell (p:=⟨B,6,none⟩) hB _
theorem eU {w:World} {B:Nat} {x:Nd} (h:Blk w B 38 (nc x).toArray):w.cell? ⟨B,0,none⟩=some (.int .i64 x.id.1)/\w.cell? ⟨B,1,none⟩=some (.int .i64 x.id.2)/\w.cell? ⟨B,2,none⟩=some (.bool x.dir)/\w.cell? ⟨B,3,none⟩=some (.int .i64 x.par.1)/\w.cell? ⟨B,4,none⟩=some (.int .i64 x.par.2)/\w.cell? ⟨B,5,none⟩=some (.string (bs x.nm))/\w.cell? ⟨B,6,none⟩=some (.string (bs x.mf)):=
 ⟨h.cell 0,h.cell 1,h.cell 2,h.cell 3,h.cell 4,h.cell 5,h.cell 6⟩
theorem vI (s:St) (A:Option Addr) (n c:Nat) (xs:List Nd) (w:World) (hx:lq w A n c xs):
  Calls prog 15 #[.slice A n c,sv s] w (dJ w (.tuple #[nv (eP s xs),.bool (ek s xs)])):=by
 have hn:=hx.len;have qJ:=hx.max;have hle:=hx.le;have dR:=dD w (.cells #[.int .i64 s.1,.int .i64 s.2] 30);have hB:=Blk.new w 30 #[.int .i64 s.1,.int .i64 s.2];have q0:=hB.cell 0;have q1:=hB.cell 1;simp only [aP,aS,aW] at q0 q1;have q0:=cell?_alloc_old q0 (.cells (nc nd0).toArray 38);have q1:=cell?_alloc_old q1 (.cells (nc nd0).toArray 38);have dS:=dR.alloc dR.size (.cells (nc nd0).toArray 38);have eY:=Blk.new (w.alloc (.cells #[.int .i64 s.1,.int .i64 s.2] 30)) 38 (nc nd0).toArray;have hsz:(w.alloc (.cells #[.int .i64 s.1,.int .i64 s.2] 30)).heap.size=w.heap.size+1:=aZ _;rw [hsz] at eY;have hx1:=hx.below dS;obtain ⟨w1,hw1⟩:=dB ((w.alloc (.cells #[.int .i64 s.1,.int .i64 s.2] 30)).alloc (.cells (nc nd0).toArray 38));rw [<-hw1] at eY dS hx1 q0 q1;have HW:=dH (show w1=(w.alloc (.cells #[.int .i64 s.1,.int .i64 s.2] 30)).alloc (.cells #[.int .i64 0,.int .i64 0,.bool false,.int .i64 0,.int .i64 0,.string ⟨#[]⟩,.string ⟨#[]⟩] 38) from hw1);have HX:=dH hx1;have HB:=dH dS;have eG:=dH eY;have HP:=dH (yT s A n c xs w1 hx1);clear hw1 hx1 dR hB hx dS eY hsz;unfold sv at*;rcases gq (en s) xs with ⟨k,hk,jQ,hp⟩| ⟨jQ,hall⟩
 ·obtain ⟨e1,e2⟩:=GX hk jQ
  rw [e1,e2];rw [jQ] at HP;obtain ⟨x,WM⟩:=dB (xs[k]);rw [<-WM];have HXK:=dH WM;have hki:(k:Int) < (n:Int):=by omega
  have hkd:decide ((k:Int)≥0)=true:=decide_eq_true (by omega);clear e1 e2 jQ hp WM;go_enter func15,ntmps15;go_wp2_with fail;rw [<-HW.o];refine HP.o.mono ?_;rintro e w2 ⟨rfl,dS⟩;have oO:=HB.o.trans (dS.mono HB.o.size);have eY:=Blk.below eG.o dS (Blk.lt eG.o);have hx2:=HX.o.below dS;have hf:=fun i=>Blk.frozen eY i
  have f0:=hf 0;have f1:=hf 1;have f2:=hf 2;have f3:=hf 3;have f4:=hf 4;have f5:=hf 5;have f6:=hf 6;obtain ⟨g0,g1,g2,g3,g4,g5,g6⟩:=eU eY;have eC:=iL oO (bC w.heap.size) x;have r:=eU (kR x eY);obtain ⟨b,off,rfl,jY,c0,c1,c2,c3,c4,c5,c6,_⟩:=lq.at_ hx2 hk;rw [<-HXK.o] at c0 c1 c2 c3 c4 c5 c6;unfold jI at eC r;obtain ⟨r0,r1,r2,r3,r4,r5,r6⟩:=r;have HF:=dH eC;clear eC hf eY dS oO hx2;go_wp2_with fail;exact bodyPost_ret (v:=.tuple #[nv x,.bool true]) (by simp [results,results15,go_sem,nv,r0,r1,r2,r3,r4,r5,r6]) rfl ⟨rfl,HF.o⟩
 ·obtain ⟨e1,e2⟩:=Pq jQ
  rw [e1,e2];rw [jQ] at HP;clear e1 e2 jQ hall;go_enter func15,ntmps15;go_wp2_with fail;rw [<-HW.o];refine HP.o.mono ?_;rintro e w2 ⟨rfl,dS⟩;have oO:=HB.o.trans (dS.mono HB.o.size);have eY:=Blk.below eG.o dS (Blk.lt eG.o);have hf:=fun i=>Blk.frozen eY i
  have f0:=hf 0;have f1:=hf 1;have f2:=hf 2;have f3:=hf 3;have f4:=hf 4;have f5:=hf 5;have f6:=hf 6;obtain ⟨g0,g1,g2,g3,g4,g5,g6⟩:=eU eY;have eC:=iL oO (bC w.heap.size) nd0;have r:=eU (kR nd0 eY);unfold jI nd0 at eC r;obtain ⟨r0,r1,r2,r3,r4,r5,r6⟩:=r;have HF:=dH eC;have he:(bs []:ByteArray)= ⟨#[]⟩:=rfl;simp only [he] at r0 r1 r2 r3 r4 r5 r6;have HF:=dH HF.o;clear eC hf eY dS oO;go_wp2_with fail;exact bodyPost_ret (v:=.tuple #[nv nd0,.bool false]) (by simp [results,results15,go_sem,nv,nd0,r0,r1,r2,r3,r4,r5,r6];rfl) rfl ⟨rfl,HF.o⟩
end
section
open Go.RowKit
attribute [local go_sem] dO dL dQ dM
theorem C0 (w:World):Calls prog 108 #[] w (dJ w (.agg #[.int .i64 0,.int .i64 1])):=by
 have HB:=dH ((aC w.heap.size w).alloc (aB _) (.cells #[.int .i64 0,.int .i64 1] 30));go_enter func108,ntmps108;go_wp2_with fail;exact bodyPost_ret (v:=.agg #[.int .i64 0,.int .i64 1]) (by simp [results,results108,go_sem]) rfl ⟨rfl,HB.o⟩
def fI (s:St) (xs:List Nd):Bool:=decide (s=(0,0)) || ek s xs && (eP s xs).dir
theorem yU (s:St) (A:Option Addr) (n c:Nat) (xs:List Nd) (w:World) (hx:lq w A n c xs):
  Calls prog 107 #[.slice A n c,sv s] w (dJ w (.bool (fI s xs))):=by
 have dR:=dD w (.cells #[.int .i64 s.1,.int .i64 s.2] 30);have hB:=Blk.new w 30 #[.int .i64 s.1,.int .i64 s.2];have q0:=hB.cell 0;have q1:=hB.cell 1;simp only [aP,aS,aW] at q0 q1;have hx1:=hx.below dR;have hz:=gU s (0,0);obtain ⟨w1,hw1⟩:=dB (w.alloc (.cells #[.int .i64 s.1,.int .i64 s.2] 30));rw [<-hw1] at dR hx1 q0 q1;have HW:=dH hw1;have HB:=dH dR;have HF:=dH (vI s A n c xs w1 hx1);clear hw1 hx1 dR hB hx;unfold fI;unfold sv nv at*;by_cases h0:s=(0,0)
 ·have hd:decide (s=(0,0))=true:=decide_eq_true h0
  rw [hd,Bool.true_or];clear h0;simp only [hd] at hz;go_enter func107,ntmps107;go_wp2_with fail;rw [<-HW.o];go_wp2_with fail;go_ret;exact ⟨rfl,HB.o⟩
 ·have hd:decide (s=(0,0))=false:=decide_eq_false h0
  rw [hd,Bool.false_or];clear h0;simp only [hd] at hz;generalize eP s xs=y at*;go_enter func107,ntmps107;go_wp2_with fail;rw [<-HW.o];go_wp2_with fail;refine HF.o.mono ?_;rintro e w2 ⟨rfl,dS⟩;have di:=HB.o.trans (dS.mono HB.o.size);have hb4:=dH (di.alloc di.size (.cells (nc y).toArray 38));have g2:=(Blk.new w2 38 (nc y).toArray).cell 2;unfold nc at g2 hb4;simp only [aP,aS,aW] at g2;clear dS di;cases hh:ek s xs with
  |true=>
   go_wp2_with fail;go_ret;exact ⟨by simp [hh],hb4.o⟩
  |false=>
   go_wp2_with fail;go_ret;exact ⟨by simp [hh],hb4.o⟩
end
section
open Go.RowKit
attribute [local go_sem] dO dL dQ dM
def SC (cs:List Value) (x:St):Prop:=cs=[.int .i64 x.1,.int .i64 x.2]
abbrev TY (w:World) (A:Option Addr) (n c:Nat) (xs:List St):Prop:=Sl w 2 SC A n c xs
theorem TY.at_ {w:World} {A:Option Addr} {n c k:Nat} {xs:List St} (h:TY w A n c xs) (hk:k < xs.length):
  ∃b off,A=some ⟨b,off,none⟩/\b < w.heap.size/\w.cell? ⟨b,off+k*2,none⟩=some (.int .i64 xs[k].1)/\w.cell? ⟨b,off+k*2+1,none⟩=some (.int .i64 xs[k].2):=by
 obtain ⟨b,off,cs,e,hlt,hl,rfl,hc⟩:=h.4 k hk;exact ⟨b,off,e,hlt,by have:=hc 0 _ rfl;simpa using this,hc 1 _ rfl⟩
def mc (s:St) (xs:List St):Int:=match xs.findIdx? (fun x=>decide (x=s)) with
 |some i=>i
 |none=>-1
theorem IY {s:St} {xs:List St} {k:Nat} (hk:k < xs.length) (h:decide (xs[k]=s)=true) (hall:∀j (hj:j < xs.length),j < k->decide (xs[j]=s)=false):mc s xs=k:=by
 have h1:xs.findIdx? (fun x=>decide (x=s))=some k:=by
  rw [bB];exact ⟨hk,h,fun j hj=>by rw [hall j (by omega) hj];simp⟩
 unfold mc;rw [h1]
theorem C2 {s:St} {xs:List St} (hall:∀j (hj:j < xs.length),decide (xs[j]=s)=false):mc s xs= -1:=by
 have h1:xs.findIdx? (fun x=>decide (x=s))=none:=by
  rw [bP];intro x hx;obtain ⟨j,hj,rfl⟩:=bY.1 hx;exact hall j hj
 unfold mc;rw [h1]
theorem EZ (s:St) (xs:List St):decide (mc s xs≥0)=decide (s∈xs):=by
 unfold mc;cases h:xs.findIdx? (fun x=>decide (x=s)) with
 |none=>
  have:=bP.1 h;have hn:s∉xs:=fun hm=>by have:=this s hm;simp at this
  simp [hn]
 |some k=>
  obtain ⟨hk,h1,_⟩:=bB.1 h;have hm:s∈xs:=by
   have:xs[k]=s:=of_decide_eq_true h1;rw [<-this];exact ag hk
  simp [hm]
theorem LH (s:St) (A:Option Addr) (n c:Nat) (xs:List St) (w:World) (hx:TY w A n c xs):
  Calls prog 241 #[.slice A n c,sv s] w (dJ w (.int .i64 (mc s xs))):=by
 have dR:=dD w (.cells #[.int .i64 s.1,.int .i64 s.2] 30);have hB:=Blk.new w 30 #[.int .i64 s.1,.int .i64 s.2];have hx1:=hx.below dR;have q0:=hB.cell 0;have q1:=hB.cell 1;simp only [aP,aS,aW] at q0 q1;have hn:=hx.len;have qJ:=hx.max;have hle:=hx.le;obtain ⟨w1,hw1⟩:=dB (w.alloc (.cells #[.int .i64 s.1,.int .i64 s.2] 30));rw [<-hw1] at hB dR hx1 q0 q1;have HW:=dH hw1;have HX:=dH hx1;have HB:=dH dR;have hs:=dR.size;obtain ⟨B,Rz⟩:=dB w.heap.size;have fq:=dn q0;rw [<-Rz] at q0 q1 fq;have EJ:=dH Rz;have Uj:=dH q0;have xM:=dH q1;clear hw1 hx1 dR hB hx Rz q0 q1 hs;unfold sv;go_enter func241,ntmps241;go_wp2_with fail;rw [<-HW.o,<-EJ.o];go_loopw [8] (fun i wr=>∃k:Nat,k<=xs.length/\i=.int .i64 k/\Below w1.heap.size w1 wr/\∀j (hj:j < xs.length),j < k->decide (xs[j]=s)=false) (fun i _=>xs.length - (intOf i).toNat)
 case atStart=>exact ⟨0,by omega,rfl,aC _ _,fun j _ h=>by omega⟩
 case round=>
  obtain ⟨k,hk,rfl,hb,hall⟩:=hrel;have oO:=HB.o.trans (hb.mono HB.o.size);rcases aG k xs.length with hlt|hge
  ·obtain ⟨b,off,rfl,jY,c0,c1⟩:=TY.at_ (HX.o.below hb) hlt
   have q0:=dP hb fq Uj.o;have q1:=dP hb fq xM.o;have HA:=dH hall;obtain ⟨x,hx⟩:∃x,xs[k]=x:=⟨_,rfl⟩;rw [hx] at c0 c1;have he:=gU s x;have hsx:decide (s=x)=decide (x=s):=decide_eq_decide.2 ⟨Eq.symm,Eq.symm⟩;rw [hsx] at he;have tV:=dH hx;have fD:=dH hb;have hki:(k:Int) < (n:Int):=by omega
   clear hall hx hb;cases hc:decide (x=s) with
   |true=>
    go_wp2_with fail;go_quiet (fail)
    have eu:=dH (below_drewN oO nq);go_wp2_with fail;have eC:mc s xs=k:=IY hlt (by rw [tV.o];exact hc) HA.o;go_ret;exact ⟨by rw [eC];rfl,eu.o⟩
   |false=>
    go_wp2_with fail;go_quiet (fail)
    have eu:=dH (below_drewN fD.o nq);go_wp2_with fail;exact ⟨⟨k+1,by omega,by go_num,eu.o,fun j hj hjk=>by
     by_cases e:j=k
     ·subst e;rw [tV.o];exact hc
     ·exact HA.o j hj (by omega)⟩,by simp [intOf];omega⟩
  ·have hkn:¬ (k:Int) < (n:Int):=by omega
   have eC:mc s xs= -1:=C2 fun j hj=>hall j hj (by omega)
   clear hall;go_wp2_with fail;go_ret;exact ⟨rfl,oO⟩
theorem C3 (s:St) (A:Option Addr) (n c:Nat) (xs:List St) (w:World) (hx:TY w A n c xs):
  Calls prog 164 #[.slice A n c,sv s] w (dJ w (.bool (decide (s∈xs)))):=by
 have dR:=dD w (.cells #[.int .i64 s.1,.int .i64 s.2] 30);have HI:=dH (LH s A n c xs _ (hx.below dR));have HB:=dH dR;rw [<-EZ];clear dR hx;unfold sv at*;go_enter func164,ntmps164;go_wp2_with fail;refine HI.o.mono ?_;rintro e w2 ⟨rfl,dS⟩;have di:=HB.o.trans (dS.mono HB.o.size);go_wp2_with fail;go_ret;exact ⟨rfl,di⟩
end
section
open Go.RowKit
attribute [local go_sem] dO dL dQ dM
def jB (l:List Nd):List Value:=l.flatMap nc
theorem kS (a b:List Nd):jB (a++b)=jB a++jB b:=by simp [jB]
theorem iJ (l:List Nd):(jB l).length=l.length*7:=by
 induction l with
 |nil=>rfl
 |cons x l ih=>simp only [jB,au,aO,aQ] at ih ⊢;rw [ih];simp [nc];omega
theorem pX (l:List Nd) (k j:Nat) (hk:k < l.length) (hj:j < 7):(jB l)[k*7+j]? =(nc l[k])[j]?:=by
 induction l generalizing k with
 |nil=>simp at hk
 |cons x l ih=>
  cases k with
  |zero=>
   simp only [jB,au];rw [bt (by simp [nc];omega)];simp
  |succ k=>
   have:=ih k (by simpa using hk);simp only [jB,au] at this ⊢;rw [bu (by simp [nc];omega)];rw [show (k+1)*7+j - (nc x).length=k*7+j from by simp [nc];omega,this];simp
def Short (xs:List Nd):Prop:=∀x∈xs,x.nm.length<=9223372036854775807/\x.mf.length<=9223372036854775807
abbrev Own (w:World) (B:Nat) (v:Value) (xs:List Nd):Prop:=dN w B 7 v xs.length (jB xs)
theorem lq.short {w:World} {A:Option Addr} {n c:Nat} {xs:List Nd} (h:lq w A n c xs):Short xs:=fun x hx=>by
 obtain ⟨j,hj,rfl⟩:=bY.1 hx;obtain ⟨b,off,cs,e,hlt,hl,⟨_,h1,h2⟩,hc⟩:=h.4 j hj;exact ⟨h1,h2⟩
theorem Own.nds {w:World} {B:Nat} {v:Value} {xs:List Nd} (h:Own w B v xs) (hs:Short xs):∃A c,v=.slice A xs.length c/\lq w A xs.length c xs:=by
 rcases h.2 with ⟨rfl,h0⟩| ⟨g,cap,rfl,hb,hlt,hnc,hcm,_,_,hx⟩
 ·obtain rfl:xs=[]:=bH h0
  exact ⟨none,0,rfl,Sl.nil_⟩
 ·refine ⟨_,cap,rfl,rfl,hnc,by unfold maxLen at hcm;omega,fun i hi=> ⟨g,0,nc xs[i],rfl,hlt,rfl,⟨rfl,hs _ (ag hi)⟩,fun j u hu=>?_⟩⟩
  have hj:j < 7:=by
   rcases aG j 7 with h|h
   ·exact h
   ·rw [bI (by simpa [nc] using h)] at hu;cases hu
  rw [aY];exact hx _ u (by rw [pX xs i j hi hj];exact hu)
theorem pY:(prog.info? 38).map (fun i=>(i.zero,i.size,i.bytes))=some (some (.agg #[.int .i64 0,.int .i64 0,.bool false,.int .i64 0,.int .i64 0,.string ⟨#[]⟩,.string ⟨#[]⟩]),7,72):=by kernel_rfl
theorem ng (x:Nd):∀u∈nc x,u.oneCell'=true:=by
 intro u hu;simp [nc] at hu;rcases hu with rfl|rfl|rfl|rfl|rfl|rfl|rfl <;> rfl
theorem Src.nd {w:World} {g c:Nat} (x:Nd) (h:Blk w g 38 (nc x).toArray):Src prog 7 33 (.slice (some ⟨g,0,none⟩) 1 c) 1 (nc x) w:=
 Src.ofSlice w underlying33 ⟨g,0,none⟩ 1 c (nc x) rfl (fun j u hu=>by
  have:(Addr.mk g 0 none).add j= ⟨g,j,none⟩:=by unfold Addr.add;split <;> simp_all
  rw [this,h.cell];simpa using hu) (ng x)
theorem dN.isSlice {w:World} {B size n:Nat} {v:Value} {xs:List Value} (h:dN w B size v n xs):∃A c,v=.slice A n c:=by
 rcases h.2 with ⟨rfl,rfl⟩| ⟨g,cap,rfl,_⟩
 ·exact ⟨_,_,rfl⟩
 ·exact ⟨_,_,rfl⟩
theorem Blk.new2 (w:World) (o:Obj) (t:TypeId) (cs:Array Value):Blk ((w.alloc o).alloc (.cells cs t)) (w.heap.size+1) t cs:=by
 have:=Blk.new (w.alloc o) t cs
 rwa [show (w.alloc o).heap.size=w.heap.size+1 from aZ _] at this
theorem Own.snoc {w:World} {B:Nat} {v:Value} {xs:List Nd} {x:Nd} (h:dN w B 7 v (xs.length+1) (jB xs++nc x)):Own w B v (xs++[x]):=by
 unfold Own;rw [kS,aO];simpa [jB] using h
def fc (s:St) (xs:List Nd):List Nd:=xs.filter fun x=>decide (x.par=s)
theorem IZ (s:St) (xs:List Nd) (k:Nat) (h:k < xs.length):fc s (xs.take (k+1))=fc s (xs.take k)++(if xs[k].par=s then [xs[k]] else []):=by
 unfold fc;rw [bF h,List.filter_append];congr 1;by_cases c:xs[k].par=s <;> simp [c]
theorem LJ (s:St) (xs:List Nd) (k:Nat):(fc s (xs.take k)).length<=k:=aK (List.length_filter_le _ _) (by rw [aX];omega)
end
section
open Go.RowKit
attribute [local go_sem] dO dL dQ dM
def dX (a b:St):Bool:=decide (a.1 < b.1) || (decide (a.1=b.1) && decide (a.2 < b.2))
theorem C4 (a b:St) (w:World):Calls prog 12 #[sv a,sv b] w (dJ w (.bool (dX a b))):=by
 have hb:=((aC w.heap.size w).alloc (aB _) (.cells #[.int .i64 a.1,.int .i64 a.2] 30)).alloc (by simp) (.cells #[.int .i64 b.1,.int .i64 b.2] 30);have HB:=dH hb;clear hb;unfold sv;by_cases h:a.1=b.1
 ·have e:(a.1 ==b.1)=true:=beq_iff_eq.2 h
  have hf:dX a b=decide (a.2 < b.2):=by unfold dX;simp [h]
  rw [hf];have e2:(a.1 != b.1)=false:=by simp [h]
  clear h hf;go_enter func12,ntmps12;go_wp2_with fail;go_ret;exact ⟨rfl,HB.o⟩
 ·have e:(a.1 ==b.1)=false:=beq_eq_false_iff_ne.2 h
  have e2:(a.1 != b.1)=true:=by simp [h]
  have hf:dX a b=decide (a.1 < b.1):=by unfold dX;simp [h]
  rw [hf];clear h hf;go_enter func12,ntmps12;go_wp2_with fail;go_ret;exact ⟨rfl,HB.o⟩
end
section
open Go.RowKit
attribute [local go_sem] dO dL dQ dM
theorem SG (x y:St) (w:World):(Op.equalIn 10000 30 (sv x) (sv y)).run prog w=.ok (decide (x=y)) w:=by
 obtain ⟨a1,a2⟩:=x;obtain ⟨b1,b2⟩:=y;unfold sv;by_cases h1:a1=b1 <;> by_cases h2:a2=b2 <;> simp [go_sem,h1,h2]
theorem C5 (e:Bool) (x:St) (n:Nat) (w:World):(Instr.checkKey e (n+2) 30 (sv x)).run prog w=.ok () w:=by
 unfold sv;simp [go_sem,Instr.checkKey,run_underlying underlying30,run_underlying underlying3]
theorem SH:MapTy prog sv 96 30 4 (.bool false) where
 map_:=by kernel_rfl
 zero:=fun w=>by simp [go_sem]
 eq:=fun x y w=>SG x y w
 check:=fun e x w=>C5 e x 9998 w
 wide:=⟨_,underlying30,fun a b=>rfl⟩
 bits:=fun s=>by simp [Instr.sameBits,sv]
section
variable {K:Type} [DecidableEq K] {P:Program} {kv:K->Value} {mt kt et:TypeId} {z:Value}
theorem MapF.update (M:MapTy P kv mt kt et z) {w:World} {b:Nat} {f:K->Option Value} (h:MapF kv w b f) (k:K) (v:Value):
  ∃w1,(Instr.mapUpdate mt (.map (some b)) (kv k) v).run P w=.ok () w1/\MapF kv w1 b (fun k'=>if k'=k then some v else f k')/\w.grownBy w1 (some b)/\w1.heap.size=w.heap.size:=by
 obtain ⟨ms,c,hb,hnd,hlt,hf⟩:=h;have nY:=finding M k w ms;cases hp:place ms k with
 |some p=>
  obtain ⟨i,e⟩:=p;obtain ⟨hi,hek⟩:=vC hp;have hmod:((ms.map (jb kv)).toArray.modify i fun x=>{ x with key:=kv k,val:=v })=((setAt ms i v).map (jb kv)).toArray:=by
   apply Array.ext_getElem?;intro j;simp only [setAt,Array.getElem?_modify,aP,cR,List.getElem?_modify];by_cases cj:i=j
   ·subst cj;simp [hi,jb,hek]
   ·simp [cj]
  obtain ⟨w1,hr,dR,hg1,hs1⟩:=set_obj (P:=P) (.map ((setAt ms i v).map (jb kv)).toArray c) hb;refine ⟨w1,?_,⟨_,c,dR,by rw [kP];exact hnd,fun x hx=>?_,fun k'=>?_⟩,hg1,hs1⟩
  ·simp only [Instr.mapUpdate,Sem.run_bind,run_underlying M.map_,Go.MapKept.run_getObj_map hb,Result.andThen_ok,M.check,nY,hp,bU]
   have h1:((ms.map (jb kv)).toArray[i]?)=some (jb kv e):=by simp [hi]
   rw [h1];simp only [bU,Option.getD_some];rw [show (jb kv e).key=kv k from by rw [<-hek];rfl];simp only [Instr.keyThatStays,M.bits,if_true,Sem.run_pure,Result.andThen_ok,hmod,hr]
  ·have:x.2.2∈(setAt ms i v).map (·.2.2):=aV.2 ⟨x,hx,rfl⟩
   rw [kP] at this;obtain ⟨y,hy,e⟩:=aV.1 this;rw [<-e];exact hlt y hy
  ·show get (setAt ms i v) k'=if k'=k then some v else f k'
   rw [rW hp,hf k']
 |none=>
  have Nw:((ms.map (jb kv)).toArray.push { key:=kv k,val:=v,born:=c })=((ms++[(k,v,c)]).map (jb kv)).toArray:=by simp [jb]
  obtain ⟨w1,hr,dR,hg1,hs1⟩:=set_obj (P:=P) (.map ((ms++[(k,v,c)]).map (jb kv)).toArray (c+1)) hb;have Uh:((ms++[(k,v,c)]).map (·.2.2)).Nodup:=by
   rw [bV];refine cS.2 ⟨hnd,by simp,?_⟩;intro a ha b hb';obtain ⟨x,hx,rfl⟩:=aV.1 ha;simp at hb';have:=hlt x hx;omega
  have Ui:∀e∈ms++[(k,v,c)],e.2.2 < c+1:=by
   intro e he;rcases aj.1 he with h|h
   ·have:=hlt e h;omega
   ·simp at h;rw [h];exact Nat.lt_succ_self _
  refine ⟨w1,?_,⟨_,c+1,dR,Uh,Ui,fun k'=>?_⟩,hg1,hs1⟩
  ·simp only [Instr.mapUpdate,Sem.run_bind,run_underlying M.map_,Go.MapKept.run_getObj_map hb,Result.andThen_ok,M.check,nY,hp,Option.map_none,Nw,hr]
  ·show get (ms++[(k,v,c)]) k'=if k'=k then some v else f k'
   rw [vD hp,hf k']
end
def Met (w:World) (M:Nat) (l:List St):Prop:=∃f,MapF sv w M f/\∀s,(f s).getD (.bool false)=.bool (decide (s∈l))
theorem Met.new (w:World):Met (w.alloc (.map #[] 0)) w.heap.size []:=⟨_,MapF.new w,fun s=>by simp⟩
theorem Met.heap {w w':World} {M:Nat} {l:List St} (h:Met w M l) (hb:w'.heap[M]? =w.heap[M]?):Met w' M l:=by
 obtain ⟨f,h1,h2⟩:=h;exact ⟨f,h1.heap hb,h2⟩
theorem Met.lt {w:World} {M:Nat} {l:List St} (h:Met w M l):M < w.heap.size:=by
 obtain ⟨f,h1,_⟩:=h;exact h1.lt
theorem Met.look {w:World} {M:Nat} {l:List St} (h:Met w M l) (s:St):(Instr.lookup 96 (.map (some M)) (sv s) false).run prog w=.ok (.bool (decide (s∈l))) w:=by
 obtain ⟨f,h1,h2⟩:=h;rw [h1.look SH s,h2]
theorem Met.add {w:World} {M:Nat} {l:List St} (h:Met w M l) (s:St):
  ∃w1,(Instr.mapUpdate 96 (.map (some M)) (sv s) (.bool true)).run prog w=.ok () w1/\Met w1 M (l++[s])/\w.grownBy w1 (some M)/\w1.heap.size=w.heap.size:=by
 obtain ⟨f,h1,h2⟩:=h;obtain ⟨w1,e1,e2,e3,e4⟩:=h1.update SH s (.bool true);refine ⟨w1,e1,⟨_,e2,fun x=>?_⟩,e3,e4⟩;by_cases c:x=s
 ·simp [c]
 ·simp only [if_neg c]
  rw [h2 x];simp [c]
theorem run_make (w:World):(Instr.makeMap 96 none).run prog w=.ok (.map (some w.heap.size)) (w.alloc (.map #[] 0)):=by simp [Instr.makeMap,go_sem]
def kT (xs:List Nd):Nat->List St->St->List St
 |0,out,_=>out
 |f+1,out,id=>if id∈out then out else if ek id xs then kT xs f (out++[id]) (eP id xs).par else if out=[] then [] else out++[id]
def left (xs:List Nd) (out:List St):Nat:=(xs.filter fun x=>decide (x.id∉out)).length
theorem Pr {p q:Nd->Bool} {xs:List Nd} (h:∀x,q x=true->p x=true) {x:Nd} (hx:x∈xs) (hp:p x=true) (hq:q x=false):(xs.filter q).length < (xs.filter p).length:=by
 have hle:∀ys:List Nd,(ys.filter q).length<=(ys.filter p).length:=fun ys=>by
  induction ys with
  |nil=>simp
  |cons y ys ih=>
   simp only [bZ];cases hqy:q y with
   |true=>rw [h y hqy];simp;exact ih
   |false=>cases p y <;> simp <;> omega
 induction xs with
 |nil=>cases hx
 |cons y ys ih=>
  simp only [bZ];rcases aR.1 hx with rfl|hx
  ·rw [hp,hq];simp;have:=hle ys;omega
  ·have:=ih hx
   cases hqy:q y with
   |true=>rw [h y hqy];simp;exact this
   |false=>cases p y <;> simp <;> omega
theorem uQ {s:St} {xs:List Nd} (h:ek s xs=true):eP s xs∈xs/\(eP s xs).id=s:=by
 unfold ek at h;unfold eP;cases hf:xs.find? (en s) with
 |none=>rw [hf] at h;cases h
 |some x=>
  have h1:=List.find?_some hf;exact ⟨List.mem_of_find?_eq_some hf,of_decide_eq_true h1⟩
theorem zx {xs:List Nd} {out:List St} {s:St} (h:ek s xs=true) (hs:s∉out):left xs (out++[s]) < left xs out:=by
 obtain ⟨h1,h2⟩:=uQ h;refine Pr (fun x hx=>?_) h1 (by rw [h2];simp [hs]) (by rw [h2];simp);simp at hx ⊢;exact hx.1
theorem qY (xs:List Nd):left xs []<=xs.length:=List.length_filter_le _ _
def i6 (xs:List Nd) (s:St):List St:=kT xs (xs.length+1) [] s
end
section
open Go.RowKit
attribute [local go_sem] dO dL dQ dM run_make
def sc (s:St):List Value:=[.int .i64 s.1,.int .i64 s.2]
def Ka (l:List St):List Value:=l.flatMap sc
theorem Ea (a b:List St):Ka (a++b)=Ka a++Ka b:=by simp [Ka]
theorem TZ (l:List St) (k j:Nat) (hk:k < l.length) (hj:j < 2):(Ka l)[k*2+j]? =(sc l[k])[j]?:=by
 induction l generalizing k with
 |nil=>simp at hk
 |cons x l ih=>
  cases k with
  |zero=>
   simp only [Ka,au];rw [bt (by simp [sc];omega)];simp
  |succ k=>
   have:=ih k (by simpa using hk);simp only [Ka,au] at this ⊢;rw [bu (by simp [sc];omega)];rw [show (k+1)*2+j - (sc x).length=k*2+j from by simp [sc];omega,this];simp
abbrev vJ (w:World) (B:Nat) (v:Value) (l:List St):Prop:=dN w B 2 v l.length (Ka l)
theorem vJ.sts {w:World} {B:Nat} {v:Value} {xs:List St} (h:vJ w B v xs):∃A c,v=.slice A xs.length c/\TY w A xs.length c xs:=by
 rcases h.2 with ⟨rfl,h0⟩| ⟨g,cap,rfl,hb,hlt,hnc,hcm,_,_,hx⟩
 ·obtain rfl:xs=[]:=bH h0
  exact ⟨none,0,rfl,Sl.nil_⟩
 ·refine ⟨_,cap,rfl,rfl,hnc,by unfold maxLen at hcm;omega,fun i hi=> ⟨g,0,sc xs[i],rfl,hlt,rfl,rfl,fun j u hu=>?_⟩⟩
  have hj:j < 2:=by
   rcases aG j 2 with h|h
   ·exact h
   ·rw [bI (by simpa [sc] using h)] at hu;cases hu
  rw [aY];exact hx _ u (by rw [TZ xs i j hi hj];exact hu)
theorem vJ.snoc {w:World} {B:Nat} {v:Value} {xs:List St} {x:St} (h:dN w B 2 v (xs.length+1) (Ka xs++sc x)):vJ w B v (xs++[x]):=by
 unfold vJ;rw [Ea,aO];simpa [Ka] using h
theorem zy:(prog.info? 30).map (fun i=>(i.zero,i.size,i.bytes))=some (some (.agg #[.int .i64 0,.int .i64 0]),2,16):=by kernel_rfl
theorem Src.st {w:World} {g c:Nat} (x:St) (h:Blk w g 30 #[.int .i64 x.1,.int .i64 x.2]):Src prog 2 35 (.slice (some ⟨g,0,none⟩) 1 c) 1 (sc x) w:=
 Src.ofSlice w underlying35 ⟨g,0,none⟩ 1 c (sc x) rfl (fun j u hu=>by
  have:(Addr.mk g 0 none).add j= ⟨g,j,none⟩:=by unfold Addr.add;split <;> simp_all
  rw [this,h.cell];simpa [sc] using hu) (by
  intro u hu;simp [sc] at hu;rcases hu with rfl|rfl <;> rfl)
def XZ (v:Value):Nat:=match v with
 | .slice _ n _=>n
 |_=>0
structure Up (B0:Nat) (w0 wr:World) (M:Nat) (u:Value) (out:List St) (id:St):Prop where
 blk:Blk wr B0 30 #[.int .i64 id.1,.int .i64 id.2]
 met:Met wr M out
 own:vJ wr (B0+2) u out
 below:Below B0 w0 wr
theorem Up.stay {B0:Nat} {w0 wr w':World} {M:Nat} {u:Value} {out:List St} {id:St} (h:Up B0 w0 wr M u out id) (hb:Below wr.heap.size wr w') (hs:B0<=wr.heap.size):Up B0 w0 w' M u out id:=
 ⟨h.blk.below hb h.blk.lt,h.met.heap (hb.block M h.met.lt),h.own.below hb,h.below.trans (hb.mono hs)⟩
theorem Up.mark {B0:Nat} {w0 wr w':World} {u:Value} {out:List St} {id:St} (h:Up B0 w0 wr (B0+1) u out id) (hg:wr.grownBy w' (some (B0+1))) (hs:B0<=wr.heap.size):Blk w' B0 30 #[.int .i64 id.1,.int .i64 id.2]/\vJ w' (B0+2) u out/\Below B0 w0 w':=
 ⟨h.blk.grown hg (fun e=>by have:=aa e;omega),h.own.kept hg (by
  rcases hq:u.ownBlock with _|k
  ·exact .inl rfl
  ·exact .inr (by have:=(h.own.ge k hq).1;intro e;have:=aa e;omega)),ef h.below hg (bC _) hs⟩
theorem yV (s:St) (A:Option Addr) (n c:Nat) (xs:List Nd) (w:World) (hx:lq w A n c xs) (hm:n<=1000000):
  Calls prog 11 #[.slice A n c,sv s] w fun e w'=>∃v,e=.returned v/\vJ w' w.heap.size v (i6 xs s)/\Below w.heap.size w w':=by
 obtain ⟨i0,jd,hz0,hz1,hz2⟩:=info_parts zy;have hn:=hx.len;have dR:=dD w (.cells #[.int .i64 s.1,.int .i64 s.2] 30);have hB:=(Blk.new w 30 #[.int .i64 s.1,.int .i64 s.2]).alloc (.map #[] 0);have dS:=dR.alloc dR.size (.map #[] 0);have hM:=Met.new (w.alloc (.cells #[.int .i64 s.1,.int .i64 s.2] 30));rw [show (w.alloc (.cells #[.int .i64 s.1,.int .i64 s.2] 30)).heap.size=w.heap.size+1 from aZ _] at hM;have hU:Up w.heap.size w ((w.alloc (.cells #[.int .i64 s.1,.int .i64 s.2] 30)).alloc (.map #[] 0)) (w.heap.size+1) (.slice none 0 0) [] s:=⟨hB,hM,dN.nil_ _ _ _,dS⟩;obtain ⟨w1,hw1⟩:=dB ((w.alloc (.cells #[.int .i64 s.1,.int .i64 s.2] 30)).alloc (.map #[] 0));rw [<-hw1] at hU;have HW:=dH hw1;have HX:=dH hx;have HU:=dH hU;have HI:=dH jd;have j9:=dH hz0;have gH:=dH hz1;have iH:=dH hz2;have hl0:left xs []+([]:List St).length<=xs.length:=qY xs;have ud:left xs [] < xs.length+1:=Nat.lt_succ_of_le (qY xs);have HL0:=dH hl0;have mO:=dH ud;clear hw1 hx dR dS hB hM jd hz0 hz1 hz2 hU hl0 ud;unfold sv;go_enter func11,ntmps11;go_wp2_with fail;rw [<-HW.o];go_loopw [6] (fun u wr=>∃(f:Nat) (out:List St) (id:St),Up w.heap.size w wr (w.heap.size+1) u out id/\left xs out+out.length<=xs.length/\left xs out < f/\kT xs f out id=i6 xs s) (fun u _=>xs.length - XZ u)
 case atStart=>exact ⟨_,[],s,HU.o,HL0.o,mO.o,rfl⟩
 case round=>
  obtain ⟨f,out,id,hU,hl,hf,hR⟩:=hrel;obtain ⟨A2,c2,rfl⟩:=dN.isSlice hU.own;have hs:w.heap.size<=wr.heap.size:=ay hU.blk.lt;obtain ⟨f,rfl⟩:∃g,f=g+1:=⟨f - 1,by omega⟩;unfold kT at hR;have hlk:=hU.met.look id;have q0:=hU.blk.cell 0;have q1:=hU.blk.cell 1;simp only [aP,aS,aW] at q0 q1;unfold sv at hlk;have Nz:=dH hU;have HXr:=dH (HX.o.below (hU.below));have acJ:=hU.blk.lt;clear hU;by_cases hin:id∈out
  ·rw [if_pos hin] at hR
   have hd:decide (id∈out)=true:=decide_eq_true hin;rw [hd] at hlk;have HR:=dH hR;have hO:=Nz.o.own.mono (Nat.le_add_right w.heap.size 2);have HO:=dH hO;have HB:=dH Nz.o.below;clear hin hd hR hO;go_wp2_with fail;go_ret;exact ⟨_,rfl,by rw [<-HR.o];exact HO.o,HB.o⟩
  rw [if_neg hin] at hR;have hd:decide (id∈out)=false:=decide_eq_false hin;rw [hd] at hlk;have aaZ:=dH hin;clear hin hd;have Hr:=vI id A n c xs wr HXr.o;obtain ⟨y,hy⟩:=dB (eP id xs);rw [<-hy] at Hr hR;unfold sv nv at Hr;have HY:=dH hy;clear hy;cases hh:ek id xs with
  |false=>
   rw [hh] at Hr hR;simp only [bR,if_false] at hR;have Sg:=dH Hr;have HR:=dH hR;have HH:=dH hh;clear Hr hR hh;cases hout:out with
   |nil=>
    subst hout;go_wp2_with fail;refine Sg.o.mono ?_;rintro e w2 ⟨rfl,dS⟩;have di:=Nz.o.below.trans (dS.mono hs);have fD:=dH (di.alloc di.size (.cells #[.int .i64 y.id.1,.int .i64 y.id.2,.bool y.dir,.int .i64 y.par.1,.int .i64 y.par.2,.string (bs y.nm),.string (bs y.mf)] 38));have hR:=HR.o;simp only [if_true] at hR;have HR:=dH hR;clear dS di hR;go_wp2_with fail;go_ret;exact ⟨_,rfl,by rw [<-HR.o];exact dN.nil_ _ _ _,fD.o⟩
   |cons o0 or=>
    rw [<-hout];have hone:out≠[]:=by rw [hout];simp
    have hR:=HR.o;rw [if_neg hone] at hR;have HR:=dH hR;have hol:((out.length:Nat):Int)≠0:=by rw [hout];simp;omega
    have acK:(((out.length:Nat):Int) ==0)=false:=beq_eq_false_iff_ne.2 hol;clear hone hR hout;go_wp2_with fail;refine Sg.o.mono ?_;rintro e w2 ⟨rfl,dS⟩;have di:Below wr.heap.size wr (w2.alloc (.cells #[.int .i64 y.id.1,.int .i64 y.id.2,.bool y.dir,.int .i64 y.par.1,.int .i64 y.par.2,.string (bs y.nm),.string (bs y.mf)] 38)):=dS.alloc dS.size _;have Fv:=Nz.o.stay di hs;have zY:Blk (w2.alloc (.cells #[.int .i64 y.id.1,.int .i64 y.id.2,.bool y.dir,.int .i64 y.par.1,.int .i64 y.par.2,.string (bs y.nm),.string (bs y.mf)] 38)) w2.heap.size 38 (nc y).toArray:=Blk.new w2 38 (nc y).toArray;have hs2:wr.heap.size<=w2.heap.size:=dS.size;have hs3:w.heap.size<=(w2.alloc (.cells #[.int .i64 y.id.1,.int .i64 y.id.2,.bool y.dir,.int .i64 y.par.1,.int .i64 y.par.2,.string (bs y.nm),.string (bs y.mf)] 38)).heap.size:=ay Fv.blk.lt;obtain ⟨w4,Oa,Bj,hg4,Dg⟩:=Fv.met.add id;obtain ⟨jA,ue,hb4⟩:=Fv.mark hg4 hs3;have hml:=Nz.o.met.lt;have PD:=zY.grown hg4 (by intro e;have:=aa e;omega);have r0:=Fv.blk.cell 0;have r1:=Fv.blk.cell 1;have t0:=jA.cell 0;have t1:=jA.cell 1;simp only [aP,aS,aW] at r0 r1 t0 t1;unfold sv at Oa;have hs4:w.heap.size+1 < w4.heap.size:=by rw [Dg];exact Fv.met.lt
    have hs5:w2.heap.size < w4.heap.size:=PD.lt;have Df:=dH (ue.alloc (.cells #[.int .i64 id.1,.int .i64 id.2] 30));have fk:=dH (hb4.alloc (ay (Nat.lt_of_succ_lt hs4)) (.cells #[.int .i64 id.1,.int .i64 id.2] 30));have Uk:=dH (jA.alloc (.cells #[.int .i64 id.1,.int .i64 id.2] 30));have PE:=dH (PD.alloc (.cells #[.int .i64 id.1,.int .i64 id.2] 30));have EL:=dH (Bj.heap (bE w4 (.cells #[.int .i64 id.1,.int .i64 id.2] 30) _ Bj.lt));have O0:=dH (show w.heap.size+2<=(w4.alloc (.cells #[.int .i64 id.1,.int .i64 id.2] 30)).heap.size by simp;omega);have Wu:=dH hs5;have Ul:=dH (show wr.heap.size<=w2.heap.size from hs2);have Kf:=dH hs4;have hn6:out.length<=1000000:=by omega
    have HS8:=dH (show w.heap.size < w2.heap.size by omega);have PF:=dH (show w.heap.size+1 < w2.heap.size by have:=Nz.o.met.lt;omega);clear dS di Fv zY Bj hg4 Dg jA ue hb4 PD hs2 hs3 hs4 hs5;go_wp2_with (at_builtin;refine dZ _ rfl (.tmp 29) (.tmp 31) 35 35 rfl 30 i0 (.agg #[.int .i64 0,.int .i64 0]) 2 underlying35 HI.o j9.o gH.o rfl (by decide) (w.heap.size+2) _ out.length (Ka out) rfl Df.o (.slice (some ⟨w4.heap.size,0,none⟩) 1 1) rfl 1 (sc id) ?c1 ?c3 ?c4 ?c5 ?_)
    case c1=>exact Src.st id (Blk.new _ _ _)
    case c3=>unfold maxLen;omega
    case c4=>rw [iH.o];omega
    case c5=>exact O0.o
    intro v' w6 hown hgrow gE;have K0:=dH (vJ.snoc hown);have tW:=dH (lU fk.o (Nat.le_add_right _ 2) (aK (Nat.le_add_right _ 2) O0.o) Df.o hgrow);have RL:=dH (Blk.grown Uk.o hgrow (fun e=>by have:=(Df.o.ge _ e.symm).1;omega));have HMn:=dH (EL.o.heap (hgrow.block _ EL.o.lt (fun e=>by have:=(Df.o.ge _ e.symm).1;omega)));have O1:(Value.slice A2 out.length c2).ownBlock≠some w2.heap.size:=fun e=>by
     have h1:=(Nz.o.own.ge _ e).2;have:=Ul.o;omega
    have Yc:=dH (eU (Blk.grown PE.o hgrow (fun e=>O1 e.symm)));clear hown hgrow gE O1;go_wp2_with fail;go_ret;exact ⟨_,rfl,by rw [<-HR.o];exact K0.o.mono (Nat.le_add_right w.heap.size 2),tW.o⟩
  |true=>
   rw [hh] at Hr hR;simp only [if_true] at hR;have Sg:=dH Hr;have HR:=dH hR;have hll:=zx hh aaZ.o;have HLL:=dH hll;clear Hr hR hh hll;go_wp2_with fail;refine Sg.o.mono ?_;rintro e w2 ⟨rfl,dS⟩;have di:Below wr.heap.size wr (w2.alloc (.cells #[.int .i64 y.id.1,.int .i64 y.id.2,.bool y.dir,.int .i64 y.par.1,.int .i64 y.par.2,.string (bs y.nm),.string (bs y.mf)] 38)):=dS.alloc dS.size _;have Fv:=Nz.o.stay di hs;have zY:Blk (w2.alloc (.cells #[.int .i64 y.id.1,.int .i64 y.id.2,.bool y.dir,.int .i64 y.par.1,.int .i64 y.par.2,.string (bs y.nm),.string (bs y.mf)] 38)) w2.heap.size 38 (nc y).toArray:=Blk.new w2 38 (nc y).toArray;have hs2:wr.heap.size<=w2.heap.size:=dS.size;have hs3:w.heap.size<=(w2.alloc (.cells #[.int .i64 y.id.1,.int .i64 y.id.2,.bool y.dir,.int .i64 y.par.1,.int .i64 y.par.2,.string (bs y.nm),.string (bs y.mf)] 38)).heap.size:=ay Fv.blk.lt;obtain ⟨w4,Oa,Bj,hg4,Dg⟩:=Fv.met.add id;obtain ⟨jA,ue,hb4⟩:=Fv.mark hg4 hs3;have hml:=Nz.o.met.lt;have PD:=zY.grown hg4 (by intro e;have:=aa e;omega);have r0:=Fv.blk.cell 0;have r1:=Fv.blk.cell 1;have t0:=jA.cell 0;have t1:=jA.cell 1;simp only [aP,aS,aW] at r0 r1 t0 t1;unfold sv at Oa;have hs4:w.heap.size+1 < w4.heap.size:=by rw [Dg];exact Fv.met.lt
   have hs5:w2.heap.size < w4.heap.size:=PD.lt;have Df:=dH (ue.alloc (.cells #[.int .i64 id.1,.int .i64 id.2] 30));have fk:=dH (hb4.alloc (ay (Nat.lt_of_succ_lt hs4)) (.cells #[.int .i64 id.1,.int .i64 id.2] 30));have Uk:=dH (jA.alloc (.cells #[.int .i64 id.1,.int .i64 id.2] 30));have PE:=dH (PD.alloc (.cells #[.int .i64 id.1,.int .i64 id.2] 30));have EL:=dH (Bj.heap (bE w4 (.cells #[.int .i64 id.1,.int .i64 id.2] 30) _ Bj.lt));have O0:=dH (show w.heap.size+2<=(w4.alloc (.cells #[.int .i64 id.1,.int .i64 id.2] 30)).heap.size by simp;omega);have Wu:=dH hs5;have Ul:=dH (show wr.heap.size<=w2.heap.size from hs2);have Kf:=dH hs4;have hn6:out.length<=1000000:=by omega
   have HS8:=dH (show w.heap.size < w2.heap.size by omega);have PF:=dH (show w.heap.size+1 < w2.heap.size by have:=Nz.o.met.lt;omega);clear dS di Fv zY Bj hg4 Dg jA ue hb4 PD hs2 hs3 hs4 hs5;go_wp2_with (at_builtin;refine dZ _ rfl (.tmp 29) (.tmp 31) 35 35 rfl 30 i0 (.agg #[.int .i64 0,.int .i64 0]) 2 underlying35 HI.o j9.o gH.o rfl (by decide) (w.heap.size+2) _ out.length (Ka out) rfl Df.o (.slice (some ⟨w4.heap.size,0,none⟩) 1 1) rfl 1 (sc id) ?c1 ?c3 ?c4 ?c5 ?_)
   case c1=>exact Src.st id (Blk.new _ _ _)
   case c3=>unfold maxLen;omega
   case c4=>rw [iH.o];omega
   case c5=>exact O0.o
   intro v' w6 hown hgrow gE;have K0:=dH (vJ.snoc hown);have tW:=dH (lU fk.o (Nat.le_add_right _ 2) (aK (Nat.le_add_right _ 2) O0.o) Df.o hgrow);have RL:=dH (Blk.grown Uk.o hgrow (fun e=>by have:=(Df.o.ge _ e.symm).1;omega));have HMn:=dH (EL.o.heap (hgrow.block _ EL.o.lt (fun e=>by have:=(Df.o.ge _ e.symm).1;omega)));have O1:(Value.slice A2 out.length c2).ownBlock≠some w2.heap.size:=fun e=>by
    have h1:=(Nz.o.own.ge _ e).2;have:=Ul.o;omega
   have Yc:=dH (eU (Blk.grown PE.o hgrow (fun e=>O1 e.symm)));clear hown hgrow gE O1;have hq:=RL.o;have f0:=hq.frozen 0;have f1:=hq.frozen 1;have g0:=hq.cell 0;have g1:=hq.cell 1;simp only [aP,aS,aW] at g0 g1;have gR:=Blk.set_ (Blk.set_ hq 0 (.int .i64 y.par.1)) 1 (.int .i64 y.par.2);have gR:Blk ((w6.setCell ⟨w.heap.size,0,none⟩ (.int .i64 y.par.1)).setCell ⟨w.heap.size,1,none⟩ (.int .i64 y.par.2)) w.heap.size 30 #[.int .i64 y.par.1,.int .i64 y.par.2]:=by simpa using gR
   have Wv:w6.grownBy ((w6.setCell ⟨w.heap.size,0,none⟩ (.int .i64 y.par.1)).setCell ⟨w.heap.size,1,none⟩ (.int .i64 y.par.2)) (some w.heap.size):=dh (p:=⟨w.heap.size,1,none⟩) (dh (p:=⟨w.heap.size,0,none⟩) (dx _ _) (.inl rfl) _) (.inl rfl) _;have hUn:Up w.heap.size w ((w6.setCell ⟨w.heap.size,0,none⟩ (.int .i64 y.par.1)).setCell ⟨w.heap.size,1,none⟩ (.int .i64 y.par.2)) (w.heap.size+1) v' (out++[id]) y.par:=
    ⟨gR,HMn.o.heap (Wv.block _ HMn.o.lt (by intro e;have:=aa e;omega)),K0.o.kept Wv (by
     rcases lN:v'.ownBlock with _|k
     ·exact .inl rfl
     ·exact .inr (by have:=(K0.o.ge k lN).1;intro e;have:=aa e;omega)),ef tW.o Wv (aB _) (ay hq.lt)⟩
   have hpar:=Yc.o;have HUn:=dH hUn;obtain ⟨A3,c3,rfl⟩:=dN.isSlice K0.o;clear gR Wv hUn hq;go_wp2_with fail;have hLL:=HLL.o;exact ⟨⟨f,out++[id],y.par,HUn.o,by simp;omega,by omega,by rw [HY.o];rw [HY.o] at HR;exact HR.o⟩,by simp [XZ];omega⟩
end
section
open Go.RowKit
attribute [local go_sem] dO dL dQ dM
end
section
open Go.RowKit
attribute [local go_sem] dO dL dQ dM
theorem qZ (xs:List Nd):∀u∈jB xs,u.oneCell'=true:=by
 intro u hu;obtain ⟨x,_,h⟩:=List.mem_flatMap.1 hu;exact ng x u h
theorem Src.nds {w:World} {A:Option Addr} {n c:Nat} {xs:List Nd} (h:lq w A n c xs):Src prog 7 33 (.slice A n c) n (jB xs) w:=by
 have hn:=h.len;cases hx:xs with
 |nil=>
  rw [hx] at hn;obtain rfl:n=0:=by simpa using hn.symm
  cases A with
  |none=>exact Src.ofNil w underlying33 c
  |some a=>exact Src.ofSlice w underlying33 a 0 c [] rfl (fun j u hu=>by simp at hu) (fun u hu=>by cases hu)
 |cons x0 r=>
  rw [<-hx];have h0:0 < xs.length:=by rw [hx];simp
  obtain ⟨b,off,cs,rfl,_⟩:=h.4 0 h0;refine Src.ofSlice w underlying33 ⟨b,off,none⟩ n c (jB xs) (by rw [iJ,hn]) (fun j u hu=>?_) (qZ xs);have lF:(Addr.mk b off none).add j= ⟨b,off+j,none⟩:=by unfold Addr.add;split <;> simp_all
  rw [lF];have hj:j < xs.length*7:=by
   rcases aG j (xs.length*7) with h|h
   ·exact h
   ·rw [bI (by rw [iJ];exact h)] at hu;cases hu
  have hk:j / 7 < xs.length:=by omega
  obtain ⟨b2,off2,cs2,e2,_,_,⟨rfl,_⟩,hc⟩:=h.4 (j / 7) hk;cases e2;have hu2:(nc xs[j / 7])[j % 7]? =some u:=by
   rw [<-pX xs (j / 7) (j % 7) hk (Nat.mod_lt _ (by decide)),show j / 7*7+j % 7=j by omega];exact hu
  have:=hc _ u hu2;rw [show off+j / 7*7+j % 7=off+j by omega] at this;exact this
theorem iR (A:Option Addr) (n c:Nat) (xs:List Nd) (w:World) (hx:lq w A n c xs) (hm:n<=1000000):
  Calls prog 111 #[.slice A n c] w fun e w'=>∃v,e=.returned v/\Own w' w.heap.size v xs/\Below w.heap.size w w':=by
 obtain ⟨i0,jd,hz0,hz1,hz2⟩:=info_parts pY;have hn:=hx.len;cases A with
 |none=>
  have h0:xs=[]:=by
   cases hxs:xs with
   |nil=>rfl
   |cons x r=>
    obtain ⟨b,off,cs,e,_⟩:=hx.4 0 (by rw [hxs];simp);cases e
  subst h0;clear hx jd hz0 hz1 hz2;have he:=fun w=>Lib.run_eql_slice_nil (P:=prog) w 33 38 none n c 0 0 underlying33
  go_enter func111,ntmps111;go_wp2_with fail;go_ret;exact ⟨_,rfl,dN.nil_ _ _ _,aC _ _⟩
 |some a=>
  have dR:=dD w (.cells #[] 38);have hO:dN (w.alloc (.cells #[] 38)) w.heap.size 7 (.slice (some ⟨w.heap.size,0,none⟩) 0 0) 0 []:=
   ⟨rfl,.inr ⟨w.heap.size,0,rfl,aB _,by simp,aB _,by decide,fun j hj=>by omega,fun j hj=>by omega,fun j u hu=>by simp at hu⟩⟩
  have hS:=Src.nds (hx.below dR);have HB:=dH dR;have HO:=dH hO;have HS:=dH hS;have HI:=dH jd;have j9:=dH hz0;have gH:=dH hz1;have iH:=dH hz2;clear hx dR hO hS jd hz0 hz1 hz2;have he:=fun w=>Lib.run_eql_slice_nil (P:=prog) w 33 38 (some a) n c 0 0 underlying33
  go_enter func111,ntmps111;go_wp2_with (at_builtin;refine dZ _ rfl (.tmp 5) (.tmp 6) 33 33 rfl 38 i0 (.agg #[.int .i64 0,.int .i64 0,.bool false,.int .i64 0,.int .i64 0,.string ⟨#[]⟩,.string ⟨#[]⟩]) 7 underlying33 HI.o j9.o gH.o rfl (by decide) w.heap.size _ 0 [] rfl HO.o (.slice (some a) n c) rfl n (jB xs) ?c1 ?c3 ?c4 ?c5 ?_)
  case c1=>exact HS.o
  case c3=>unfold maxLen;omega
  case c4=>rw [iH.o];omega
  case c5=>simp
  intro v' w3 hown hgrow gE;have K0:=dH (show Own w3 w.heap.size v' xs by unfold Own;rw [hn];simpa using hown);have tW:=dH (lU HB.o (aB _) (by simp) HO.o hgrow);clear hown hgrow gE;go_wp2_with fail;go_ret;exact ⟨_,rfl,K0.o,tW.o⟩
end
section
open Go.RowKit
attribute [local go_sem] dO dL dQ dM
structure dV where
 st:St
 seq:Int
 kind:Int
 node:St
 dir:Bool
 par:St
 nm:List UInt8
 mf:List UInt8
deriving DecidableEq
instance:Inhabited dV:=⟨⟨(0,0),0,0,(0,0),false,(0,0),[],[]⟩⟩
def oc (x:dV):List Value:=[.int .i64 x.st.1,.int .i64 x.st.2,.int .i64 x.seq,.int .i64 x.kind,.int .i64 x.node.1,.int .i64 x.node.2,.bool x.dir,.int .i64 x.par.1,.int .i64 x.par.2,.string (bs x.nm),.string (bs x.mf)]
def ov (x:dV):Value:=.agg #[.int .i64 x.st.1,.int .i64 x.st.2,.int .i64 x.seq,.int .i64 x.kind,.int .i64 x.node.1,.int .i64 x.node.2,.bool x.dir,.int .i64 x.par.1,.int .i64 x.par.2,.string (bs x.nm),.string (bs x.mf)]
theorem dK {w w1:World} {x:dV} (h:w1=w.alloc (.cells (oc x).toArray 32)):w1=w.alloc (.cells #[.int .i64 x.st.1,.int .i64 x.st.2,.int .i64 x.seq,.int .i64 x.kind,.int .i64 x.node.1,.int .i64 x.node.2,.bool x.dir,.int .i64 x.par.1,.int .i64 x.par.2,.string (bs x.nm),.string (bs x.mf)] 32):=h
theorem LK (q:Nat) (y x:Nd) (w:World) (hq:Blk w q 38 (nc y).toArray):
  Calls prog 162 #[nv x,.pointer (some ⟨q,0,none⟩)] w (dJ w (.bool (dX y.id x.id))):=by
 have hb:=dD w (.cells (nc x).toArray 38);have hq1:=hq.alloc (.cells (nc x).toArray 38);have hB:=Blk.new w 38 (nc x).toArray;obtain ⟨c0,c1,_⟩:=eU hq1;obtain ⟨e0,e1,_⟩:=eU hB;have hl:=C4 y.id x.id (w.alloc (.cells (nc x).toArray 38));unfold sv nc at hl;unfold nc at c0 c1 e0 e1 hb;have HL:=dH hl;have HB:=dH hb;clear hb hB hq hq1 hl;unfold nv;go_enter func162,ntmps162;go_wp2_with fail;refine HL.o.mono ?_;rintro e w2 ⟨rfl,dS⟩;have di:=HB.o.trans (dS.mono HB.o.size);go_wp2_with fail;go_ret;exact ⟨rfl,di⟩
end
section
open Go.RowKit
attribute [local go_sem] dO dL dQ dM
theorem Eb (q:Nat) (y:Nd) (A:Option Addr) (n c:Nat) (xs:List Nd) (w:World) (hx:lq w A n c xs) (hq:Blk w q 38 (nc y).toArray):
  Calls prog 100 #[.slice A n c,.func (.func 162) #[] #[.pointer (some ⟨q,0,none⟩)]] w (dJ w (.int .i64 (fH (fun z=>dX y.id z.id) xs))):=by
 have De:=hq.lt;have hn:=hx.len;have qJ:=hx.max;have hle:=hx.le;have HX:=dH hx;have HQ:=dH hq;clear hx hq;go_enter func100,ntmps100;go_wp2_with fail;go_loopw [8] (fun i wr=>∃k:Nat,k<=xs.length/\i=.int .i64 k/\Below w.heap.size w wr/\∀j (hj:j < xs.length),j < k->dX y.id xs[j].id=false) (fun i _=>xs.length - (intOf i).toNat)
 case atStart=>exact ⟨0,by omega,rfl,aC _ _,fun j _ h=>by omega⟩
 case round=>
  obtain ⟨k,hk,rfl,hb,hall⟩:=hrel;rcases aG k xs.length with hlt|hge
  ·obtain ⟨b,off,rfl,jY,c0,c1,c2,c3,c4,c5,c6,_⟩:=lq.at_ (HX.o.below hb) hlt
   have Ny:=HQ.o.below hb De;have HA:=dH hall;have hcl:=LK q y xs[k] wr Ny;obtain ⟨x,hx⟩:∃x,xs[k]=x:=⟨_,rfl⟩;rw [hx] at c0 c1 c2 c3 c4 c5 c6 hcl;unfold nv at hcl;have BA:=dH hcl;have tV:=dH hx;have HB:=dH hb;have hki:(k:Int) < (n:Int):=by omega
   clear hall hx hb Ny hcl;go_wp2_with fail;refine BA.o.mono ?_;rintro e w2 ⟨rfl,dS⟩;have di:=HB.o.trans (dS.mono HB.o.size);cases hc:dX y.id x.id with
   |true=>
    go_wp2_with fail;have eC:fH (fun z=>dX y.id z.id) xs=k:=rX hlt (by show dX y.id xs[k].id=true;rw [tV.o];exact hc) HA.o;go_ret;exact ⟨by rw [eC];rfl,di⟩
   |false=>
    go_wp2_with fail;exact ⟨⟨k+1,by omega,by go_num,di,fun j hj hjk=>by
     by_cases e:j=k
     ·subst e;rw [tV.o];exact hc
     ·exact HA.o j hj (by omega)⟩,by simp [intOf];omega⟩
  ·have hkn:¬ (k:Int) < (n:Int):=by omega
   have eC:fH (fun z=>dX y.id z.id) xs= -1:=sw fun j hj=>hall j hj (by omega)
   clear hall;go_wp2_with fail;go_ret;exact ⟨rfl,hb⟩
end
section
open Go.RowKit
attribute [local go_sem] dO dL dQ dM
def OpC (cs:List Value) (x:dV):Prop:=cs=oc x/\x.nm.length<=9223372036854775807/\x.mf.length<=9223372036854775807
abbrev Ia (w:World) (A:Option Addr) (n c:Nat) (xs:List dV):Prop:=Sl w 11 OpC A n c xs
theorem Ia.at_ {w:World} {A:Option Addr} {n c k:Nat} {xs:List dV} (h:Ia w A n c xs) (hk:k < xs.length):
  ∃b off,A=some ⟨b,off,none⟩/\b < w.heap.size/\w.cell? ⟨b,off+k*11,none⟩=some (.int .i64 xs[k].st.1)/\w.cell? ⟨b,off+k*11+1,none⟩=some (.int .i64 xs[k].st.2)/\w.cell? ⟨b,off+k*11+2,none⟩=some (.int .i64 xs[k].seq)/\w.cell? ⟨b,off+k*11+3,none⟩=some (.int .i64 xs[k].kind)/\w.cell? ⟨b,off+k*11+4,none⟩=some (.int .i64 xs[k].node.1)/\w.cell? ⟨b,off+k*11+5,none⟩=some (.int .i64 xs[k].node.2)/\w.cell? ⟨b,off+k*11+6,none⟩=some (.bool xs[k].dir)/\w.cell? ⟨b,off+k*11+7,none⟩=some (.int .i64 xs[k].par.1)/\w.cell? ⟨b,off+k*11+8,none⟩=some (.int .i64 xs[k].par.2)/\w.cell? ⟨b,off+k*11+9,none⟩=some (.string (bs xs[k].nm))/\w.cell? ⟨b,off+k*11+10,none⟩=some (.string (bs xs[k].mf))/\xs[k].nm.length<=9223372036854775807/\xs[k].mf.length<=9223372036854775807:=by
 obtain ⟨b,off,cs,e,hlt,hl,⟨rfl,Dj,hr2⟩,hc⟩:=h.4 k hk;exact ⟨b,off,e,hlt,by have:=hc 0 _ rfl;simpa using this,hc 1 _ rfl,hc 2 _ rfl,hc 3 _ rfl,hc 4 _ rfl,hc 5 _ rfl,hc 6 _ rfl,hc 7 _ rfl,hc 8 _ rfl,hc 9 _ rfl,hc 10 _ rfl,Dj,hr2⟩
end
section
def C6 (xs:List Nd) (x:dV) (y:Nd):Option Nd:=
 if x.kind=2 then (if fI x.par xs && !decide (x.node∈i6 xs x.par) then some { y with par:=x.par,nm:=x.nm } else none)
 else if x.kind=3 then (if y.dir then none else some { y with mf:=x.mf })
 else if x.kind=4 then some { y with par:=(0,1) }
 else none
def qR (xs:List Nd) (s:St):Nat:=(xs.findIdx? fun z=>dX s z.id).getD xs.length
def fu (xs:List Nd) (y:Nd):List Nd:=xs.take (qR xs y.id)++y :: xs.drop (qR xs y.id)
def uR (xs:List Nd) (x:dV):List Nd:=
 match xs.findIdx? (en x.node) with
 |none=>if x.kind=1 then fu xs ⟨x.node,x.dir,if fI x.par xs then x.par else (0,1),x.nm,x.mf⟩ else xs
 |some i=>if x.kind=1 then xs else match C6 xs x (xs.getD i nd0) with
  |some y=>xs.set i y
  |none=>xs
def fN (l:List dV):List Nd:=l.foldl uR []
theorem Ib (xs:List Nd) (s:St):(qR xs s:Int)=if fH (fun z=>dX s z.id) xs < 0 then (xs.length:Int) else fH (fun z=>dX s z.id) xs:=by
 unfold qR fH;cases xs.findIdx? (fun z=>dX s z.id) with
 |none=>rfl
 |some k=>simp;omega
end
section
open Go.RowKit
attribute [local go_sem] dO dL dQ dM
theorem LM (s:St) (A:Option Addr) (n c:Nat) (xs:List Nd) (w:World) (hx:lq w A n c xs) (hm:n<=1000000):
  Calls prog 45 #[.slice A n c,sv s] w fun e w'=>∃v,e=.returned v/\Own w' w.heap.size v (fc s xs)/\Below w.heap.size w w':=by
 obtain ⟨i0,jd,hz0,hz1,hz2⟩:=info_parts pY;have hn:=hx.len;have qJ:=hx.max;have hle:=hx.le;have dR:=dD w (.cells #[.int .i64 s.1,.int .i64 s.2] 30);have hB:=Blk.new w 30 #[.int .i64 s.1,.int .i64 s.2];obtain ⟨w1,hw1⟩:=dB (w.alloc (.cells #[.int .i64 s.1,.int .i64 s.2] 30));have hsz:w1.heap.size=w.heap.size+1:=by rw [hw1];exact aZ _
 rw [<-hw1] at dR hB;have HW:=dH hw1;have HX:=dH hx;have eH:=dH dR;have yC:=dH hB;have HI:=dH jd;have j9:=dH hz0;have gH:=dH hz1;have iH:=dH hz2;have O2:=dH hsz;clear hw1 hx dR hB jd hz0 hz1 hz2 hsz;unfold sv;go_enter func45,ntmps45;go_wp2_with fail;rw [<-HW.o];go_loopw [5,10] (fun u i wr=>∃k:Nat,k<=n/\i=.int .i64 k/\Own wr (w.heap.size+1) u (fc s (xs.take k))/\Below w.heap.size w wr/\Blk wr w.heap.size 30 #[.int .i64 s.1,.int .i64 s.2]) (fun _ i _=>n - (intOf i).toNat)
 case atStart=>exact ⟨0,by omega,rfl,dN.nil_ _ _ _,eH.o,yC.o⟩
 case round=>
  obtain ⟨k,hk,rfl,hO,hb,nJ⟩:=hrel;have iZ:=nJ.lt;have q0:=nJ.cell 0;have q1:=nJ.cell 1;simp only [aP,aS,aW] at q0 q1;rcases aG k n with hlt|hge
  ·obtain ⟨b,off,rfl,jY,c0,c1,c2,c3,c4,c5,c6,_⟩:=lq.at_ (HX.o.below hb) (by omega:k < xs.length)
   have hnext:=IZ s xs k (by omega);have hkl:=LJ s xs k;generalize xs[k]=x at*;have hki:(k:Int) < (n:Int):=by omega
   have he:=gU x.par s;have eY:=Blk.new wr 38 (nc x).toArray;have q0:=cell?_alloc_old q0 (.cells (nc x).toArray 38);have q1:=cell?_alloc_old q1 (.cells (nc x).toArray 38);have g:=eU eY;obtain ⟨A2,cc2,rfl⟩:=dN.isSlice hO;have Ww:=dN.alloc hO (.cells (nc x).toArray 38);have dS:=hb.alloc hb.size (.cells (nc x).toArray 38);have Um:=nJ.alloc (.cells (nc x).toArray 38);obtain ⟨w2,eV⟩:=dB (wr.alloc (.cells (nc x).toArray 38));rw [<-eV] at q0 q1 g Ww dS Um;obtain ⟨g0,g1,g2,g3,g4,g5,g6⟩:=g;have acL:wr.heap.size < w2.heap.size:=dn g0;have pR:=dH (show w2=wr.alloc (.cells #[.int .i64 x.id.1,.int .i64 x.id.2,.bool x.dir,.int .i64 x.par.1,.int .i64 x.par.2,.string (bs x.nm),.string (bs x.mf)] 38) from eV);have yD:=dH Ww;have eG:=dH dS;have K4:=dH Um;clear hO Ww hb dS nJ Um eV eY;by_cases hp:x.par=s
   ·have hd:decide (x.par=s)=true:=decide_eq_true hp
    rw [if_pos hp] at hnext;have K6:=dH hnext;simp only [hd] at he;clear hp hd hnext;have Ba:=pR.o ▸ yD.o;have uF:=pR.o ▸ eG.o;have Yd:=pR.o ▸ K4.o;have ue:=dN.alloc Ba (.cells (nc x).toArray 38);have jA:=uF.alloc uF.size (.cells (nc x).toArray 38);have Ye:=Yd.alloc (.cells (nc x).toArray 38);have hge:=dN.ge ue;have Dg:w.heap.size+1<=((wr.alloc (.cells #[.int .i64 x.id.1,.int .i64 x.id.2,.bool x.dir,.int .i64 x.par.1,.int .i64 x.par.2,.string (bs x.nm),.string (bs x.mf)] 38)).alloc (.cells (nc x).toArray 38)).heap.size:=by simp;omega
    have sU:=dH ue;have fD:=dH jA;have aba:=dH Ye;have HGe:=dH hge;have Yf:=dH Dg;clear Ba uF Yd ue jA Ye hge Dg;go_wp2_with (at_builtin;refine dZ _ rfl (.tmp 18) (.tmp 20) 33 33 rfl 38 i0 (.agg #[.int .i64 0,.int .i64 0,.bool false,.int .i64 0,.int .i64 0,.string ⟨#[]⟩,.string ⟨#[]⟩]) 7 underlying33 HI.o j9.o gH.o rfl (by decide) (w.heap.size+1) _ (fc s (xs.take k)).length (jB (fc s (xs.take k))) rfl sU.o (.slice (some ⟨wr.heap.size+1,0,none⟩) 1 1) rfl 1 (nc x) ?c1 ?c3 ?c4 ?c5 ?_)
    case c1=>exact Src.nd x (Blk.new2 _ _ _ _)
    case c3=>unfold maxLen;omega
    case c4=>rw [iH.o];omega
    case c5=>exact Yf.o
    intro v' w3 hown hgrow gE;have K0:=dH (Own.snoc hown);have tW:=dH (lU fD.o (bC _) (Nat.le_of_succ_le Yf.o) sU.o hgrow);have RL:=dH (Blk.grown aba.o hgrow (fun e=>by have:=(HGe.o _ e.symm).1;omega));clear hown hgrow gE;go_wp2_with fail;exact ⟨⟨k+1,by omega,by go_num,by rw [K6.o];exact K0.o,tW.o,RL.o⟩,by simp [intOf];omega⟩
   ·have hd:decide (x.par=s)=false:=decide_eq_false hp
    rw [if_neg hp,bD] at hnext;have K6:=dH hnext;simp only [hd] at he;clear hp hd hnext;go_wp2_with fail;rw [<-pR.o];go_wp2_with fail;exact ⟨⟨k+1,by omega,by go_num,by rw [K6.o];exact yD.o,eG.o,K4.o⟩,by simp [intOf];omega⟩
  ·have hkn:¬ (k:Int) < (n:Int):=by omega
   have eC:xs.take k=xs:=az (by omega);rw [eC] at hO;have HO:=dH hO;have HB:=dH hb;clear hO hb nJ eC;go_wp2_with fail;go_ret;exact ⟨_,rfl,HO.o.mono (bC _),HB.o⟩
end
end Go.Proofs.YtgdaahffmcfhpaaGreatDoor
