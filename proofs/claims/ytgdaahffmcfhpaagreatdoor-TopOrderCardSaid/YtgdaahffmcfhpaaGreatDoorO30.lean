/- Lemmas on the way: Ac Ag Ah Ai. -/
import Derived.Test.YtgdaahffmcfhpaaGreatDoorO27
import Derived.Test.YtgdaahffmcfhpaaGreatDoorO29
set_option maxRecDepth 100000
set_option maxHeartbeats 8000000
namespace Go.Proofs.YtgdaahffmcfhpaaGreatDoor
open aA
open Tryz
section
open Go.RowKit
attribute [local go_sem] dR dO dS dP
def zN (b:Bool):Int:=if b then 1 else 0
def GU (x:dX) (r:List UInt8):List UInt8:=
 oo x.st++(Pt.Cd.numL x.seq++(Pt.Cd.numL x.kind++(oo x.node++(Pt.Cd.numL (zN x.dir)++(oo x.par++(Pt.Cd.textL x.nm++(Pt.Cd.textL x.mf++r)))))))
def gy (x:dX):List UInt8:=GU x []
structure FQ (x:dX):Prop where
 st:oS x.st.1/\oS x.st.2
 seq:oS x.seq
 kind:oS x.kind
 node:oS x.node.1/\oS x.node.2
 par:oS x.par.1/\oS x.par.2
 nm:x.nm.length<=1000
 mf:x.mf.length<=1000
theorem OH (b:Bool):oS (zN b):=by cases b <;> (unfold zN oS;simp)
theorem kf (s:St):(oo s).length<=18:=by
 unfold oo;have h1:=eN s.1;have h2:=eN s.2;simp only [aP];omega
theorem lP (x:dX) (h:FQ x):(gy x).length<=2200:=by
 unfold gy GU;have h1:=kf x.st;have h2:=kf x.node;have h3:=kf x.par;have h4:=eN x.seq;have h5:=eN x.kind;have h6:=eN (zN x.dir);have h7:=gC x.nm;have h8:=gC x.mf;have h9:=h.nm;have h10:=h.mf;simp only [aP,bE];omega
def sj:List Value:=[.int .i64 0,.int .i64 0,.int .i64 0,.int .i64 0,.int .i64 0,.int .i64 0,.bool false,.int .i64 0,.int .i64 0,.string ⟨#[]⟩,.string ⟨#[]⟩]
structure qt (w wi:World) (q1 g q2:Nat) (cs:List Value) (r:List UInt8):Prop where
 below:Below w w wi
 b1:Blk wi q1 32 sj.toArray
 b2:Blk wi q2 32 cs.toArray
 rd:vB wi g r
 hg:w.heap.size<=g
 h1:w.heap.size<=q1
 h2:w.heap.size<=q2
 n1:q1≠q2
 n2:g≠q1
 n3:g≠q2
variable {w wi w':World} {cs:List Value} {r:List UInt8} {l nb fb q1 g q2 a d m B:Nat}
theorem qt.call {r':List UInt8} (h:qt w wi q1 g q2 cs r) (hg:wi.grownBy w' (some g)) (hr:vB w' g r'):qt w w' q1 g q2 cs r':=
 ⟨eY h.below hg h.hg h.below.size,h.b1.grown hg (by intro e;cases e;exact h.n2 rfl),h.b2.grown hg (by intro e;cases e;exact h.n3 rfl),hr,h.hg,h.h1,h.h2,h.n1,h.n2,h.n3⟩
theorem qt.later (h:qt w wi q1 g q2 cs r) (hb:Below wi wi w'):qt w w' q1 g q2 cs r:=
 ⟨h.below.trans (hb.mono h.below.size),h.b1.below hb h.b1.lt,h.b2.below hb h.b2.lt,h.rd.below hb,h.hg,h.h1,h.h2,h.n1,h.n2,h.n3⟩
theorem qt.store (h:qt w wi q1 g q2 cs r) (k:Nat) (v:Value):qt w (wi.setCell (Qc q2 k) v) q1 g q2 (cs.set k v) r:=by
 refine ⟨h.below.setCell (p:=Qc q2 k) h.h2 v,h.b1.far (p:=Qc q2 k) h.n1 v,?_,h.rd.far (dh (dz wi _) (p:=Qc q2 k) (.inl rfl) v) h.n3,h.hg,h.h1,h.h2,h.n1,h.n2,h.n3⟩;have:=h.b2.set_ k v;simpa using this
theorem qt.f (h:qt w wi q1 g q2 cs r) (k:Nat):wi.frozen? ⟨q2,k,none⟩=false:=h.b2.frozen k
theorem qt.c (h:qt w wi q1 g q2 cs r) (k:Nat):wi.cell? (Qc q2 k)=cs[k]?:=by rw [h.b2.cell];simp
theorem L5 (w:World) (d:List UInt8) (hd:d.length<=1000000):
  Calls prog 214 #[d] (w.alloc (.cells sj.toArray 32)) λe w'=>∃g,e=.returned (.pointer (some ⟨g,0,none⟩))/\qt w (w'.alloc (.cells sj.toArray 32)) w g w' sj d:=by
 refine (Nb d hd _).mono ?_;rintro e w' ⟨rfl,hr,hb⟩;have hs:(w.alloc (.cells sj.toArray 32)).heap.size=w.heap.size+1:=ai _;have hlt:=hr.lt;have dV:=(Blk.new w 32 sj.toArray).below hb (by omega);have wC:=((aC w w).alloc (aB _) (.cells sj.toArray 32)).trans (hb.mono (by omega));have hss:=hb.size;exact ⟨_,rfl,wC.alloc (by omega) _,dV.alloc _,Blk.new w' 32 sj.toArray,hr.below ((aC _ _).alloc (aB _) _),by omega,aB _,by omega,by omega,by omega,by omega⟩
theorem GV (x:dX) (hx:FQ x) (hrc:sG x=0) (w:World):
  Calls prog 309 #[(gy x)] w (dM w (.tuple #[ov x,qn])):=by
 have hl:=lP x hx;have HS:=dL (L5 w (gy x) (by omega));have HR:=dL (λw=>lM x (by have:=hx.nm;omega) (by have:=hx.mf;omega) w);rw [hrc] at HR;have HX:=dL hx;clear hx hl hrc;obtain ⟨q0,Mi⟩:=dG w.heap.size;have XH:=dL Mi;go_enter func309,ntmps309;go_wp2_with fail;refine HS.o.mono ?_;rintro e w1 ⟨g,rfl,hI⟩;clear HS;obtain ⟨q2,ig⟩:=dG w1.heap.size;obtain ⟨w2,eV⟩:=dG (w1.alloc (.cells #[qn,qn,qn,qn,qn,qn,false,qn,qn,yj,yj] 32));have Ta:qt w w2 q0 g q2 sj (GU x []):=by rw [eV,ig,Mi];exact hI
 have HW:=dL eV;have HQ:=dL ig;have I0:=dL Ta;clear hI Ta eV ig Mi;unfold GU at I0;go_wp2_with fail;rw [<-HW.o,<-HQ.o,<-XH.o];refine (Bb x.st HX.o.st.1 HX.o.st.2 I0.o.rd).mono ?_;rintro e v1 ⟨rfl,hr,hg⟩;have hJ:=I0.o.call hg hr;clear hr hg;unfold sv;have f0:=hJ.f 0;have c0:=hJ.c 0;have f1:=hJ.f 1;have c1:=hJ.c 1;simp [sj] at c0 c1;obtain ⟨u1,hu⟩:∃u,u=((v1.setCell q2 x.st.1).setCell (Qc q2 1) x.st.2):=⟨_,rfl⟩;have oQ:=((hJ.store 0 (.int .i64 x.st.1)).store 1 (.int .i64 x.st.2));rw [<-hu] at oQ;have HU:=dL hu;have I1:=dL oQ;clear hJ oQ hu;go_wp2_with fail;rw [<-HU.o];clear HU f0 c0 f1 c1 I0;refine (mh x.seq HX.o.seq I1.o.rd).mono ?_;rintro e v2 ⟨rfl,hr,hg⟩;have hJ:=I1.o.call hg hr;clear hr hg;have f2:=hJ.f 2;have c2:=hJ.c 2;simp [sj] at c2;obtain ⟨u2,hu⟩:∃u,u=(v2.setCell (Qc q2 2) x.seq):=⟨_,rfl⟩;have oQ:=(hJ.store 2 (.int .i64 x.seq));rw [<-hu] at oQ;have HU:=dL hu;have I2:=dL oQ;clear hJ oQ hu;go_wp2_with fail;rw [<-HU.o];clear HU f2 c2 I1;refine (mh x.kind HX.o.kind I2.o.rd).mono ?_;rintro e v3 ⟨rfl,hr,hg⟩;have hJ:=I2.o.call hg hr;clear hr hg;have f3:=hJ.f 3;have c3:=hJ.c 3;simp [sj] at c3;obtain ⟨u3,hu⟩:∃u,u=(v3.setCell (Qc q2 3) x.kind):=⟨_,rfl⟩;have oQ:=(hJ.store 3 (.int .i64 x.kind));rw [<-hu] at oQ;have HU:=dL hu;have I3:=dL oQ;clear hJ oQ hu;go_wp2_with fail;rw [<-HU.o];clear HU f3 c3 I2;refine (Bb x.node HX.o.node.1 HX.o.node.2 I3.o.rd).mono ?_;rintro e v4 ⟨rfl,hr,hg⟩;have hJ:=I3.o.call hg hr;clear hr hg;unfold sv;have f4:=hJ.f 4;have c4:=hJ.c 4;have f5:=hJ.f 5;have c5:=hJ.c 5;simp [sj] at c4 c5;obtain ⟨u4,hu⟩:∃u,u=((v4.setCell (Qc q2 4) x.node.1).setCell (Qc q2 5) x.node.2):=⟨_,rfl⟩;have oQ:=((hJ.store 4 (.int .i64 x.node.1)).store 5 (.int .i64 x.node.2));rw [<-hu] at oQ;have HU:=dL hu;have I4:=dL oQ;clear hJ oQ hu;go_wp2_with fail;rw [<-HU.o];clear HU f4 c4 f5 c5 I3;refine (mh (zN x.dir) (OH _) I4.o.rd).mono ?_;rintro e v5 ⟨rfl,hr,hg⟩;have hJ:=I4.o.call hg hr;clear hr hg;have I5:=dL hJ;clear hJ I4;go_wp2_with fail;refine (Bb x.par HX.o.par.1 HX.o.par.2 I5.o.rd).mono ?_;rintro e v6 ⟨rfl,hr,hg⟩;have hJ:=I5.o.call hg hr;clear hr hg;unfold sv;have f7:=hJ.f 7;have c7:=hJ.c 7;have f8:=hJ.f 8;have c8:=hJ.c 8;simp [sj] at c7 c8;obtain ⟨u6,hu⟩:∃u,u=((v6.setCell (Qc q2 7) x.par.1).setCell (Qc q2 8) x.par.2):=⟨_,rfl⟩;have oQ:=((hJ.store 7 (.int .i64 x.par.1)).store 8 (.int .i64 x.par.2));rw [<-hu] at oQ;have HU:=dL hu;have I6:=dL oQ;clear hJ oQ hu;go_wp2_with fail;rw [<-HU.o];clear HU f7 c7 f8 c8 I5;refine (Ba x.nm I6.o.rd (by have:=HX.o.nm;omega)).mono ?_;rintro e v7 ⟨rfl,hr,hg⟩;have hJ:=I6.o.call hg hr;clear hr hg;have f9:=hJ.f 9;have c9:=hJ.c 9;simp [sj] at c9;obtain ⟨u7,hu⟩:∃u,u=(v7.setCell (Qc q2 9) x.nm):=⟨_,rfl⟩;have oQ:=(hJ.store 9 (.string (bs x.nm)));rw [<-hu] at oQ;have HU:=dL hu;have I7:=dL oQ;clear hJ oQ hu;go_wp2_with fail;rw [<-HU.o];clear HU f9 c9 I6;refine (Ba x.mf I7.o.rd (by have:=HX.o.mf;omega)).mono ?_;rintro e v8 ⟨rfl,hr,hg⟩;have hJ:=I7.o.call hg hr;clear hr hg;have f10:=hJ.f 10;have jX:=hJ.c 10;simp [sj] at jX;obtain ⟨u8,hu⟩:∃u,u=(v8.setCell (Qc q2 10) x.mf):=⟨_,rfl⟩;have oQ:=(hJ.store 10 (.string (bs x.mf)));rw [<-hu] at oQ;have HU:=dL hu;have I8:=dL oQ;clear hJ oQ hu;go_wp2_with fail;rw [<-HU.o];clear HU f10 jX I7;refine (Nc I8.o.rd).mono ?_;rintro e v9 ⟨rfl,hb⟩;have hJ:=I8.o.later hb;clear hb;have f6:=hJ.f 6;have c6:=hJ.c 6;simp [sj] at c6;obtain ⟨bd,hbd⟩:=dG x.dir;have CZ:(zN x.dir ==1)=bd:=by rw [hbd];cases x.dir <;> rfl
 have QD:decide (zN x.dir < 0)=false:=by cases x.dir <;> rfl
 have uf:decide (zN x.dir > 1)=false:=by cases x.dir <;> rfl
 obtain ⟨u9,hu⟩:∃u,u=v9.setCell (Qc q2 6) bd:=⟨_,rfl⟩;have oQ:=hJ.store 6 (.bool bd);rw [<-hu] at oQ;have HU:=dL hu;have c0:=hJ.c 0;have c1:=hJ.c 1;have c2:=hJ.c 2;have c3:=hJ.c 3;have c4:=hJ.c 4;have c5:=hJ.c 5;have c7:=hJ.c 7;have c8:=hJ.c 8;have c9:=hJ.c 9;have jX:=hJ.c 10;simp [sj] at c0 c1 c2 c3 c4 c5 c7 c8 c9 jX;have I9:=dL oQ;have Tt:=dL hbd;clear hJ oQ hbd;have HRu:=dL (HR.o u9);unfold ov at HRu;rw [<-Tt.o] at HRu;clear hu;go_wp2_with fail;rw [<-HU.o];refine HRu.o.mono ?_;rintro e Vh ⟨rfl,hb⟩;have hJ:=I9.o.later hb;clear hb HRu HU I9;have c0:=hJ.c 0;have c1:=hJ.c 1;have c2:=hJ.c 2;have c3:=hJ.c 3;have c4:=hJ.c 4;have c5:=hJ.c 5;have c6:=hJ.c 6;have c7:=hJ.c 7;have c8:=hJ.c 8;have c9:=hJ.c 9;have jX:=hJ.c 10;simp [sj] at c0 c1 c2 c3 c4 c5 c6 c7 c8 c9 jX;have g0:=hJ.b1.frozen 0;have b0:=hJ.b1.cell 0;have g1:=hJ.b1.frozen 1;have b1:=hJ.b1.cell 1;have g2:=hJ.b1.frozen 2;have b2:=hJ.b1.cell 2;have g3:=hJ.b1.frozen 3;have b3:=hJ.b1.cell 3;have g4:=hJ.b1.frozen 4;have b4:=hJ.b1.cell 4;have g5:=hJ.b1.frozen 5;have b5:=hJ.b1.cell 5;have g6:=hJ.b1.frozen 6;have b6:=hJ.b1.cell 6;have g7:=hJ.b1.frozen 7;have b7:=hJ.b1.cell 7;have g8:=hJ.b1.frozen 8;have b8:=hJ.b1.cell 8;have g9:=hJ.b1.frozen 9;have b9:=hJ.b1.cell 9;have g10:=hJ.b1.frozen 10;have b10:=hJ.b1.cell 10;simp [sj] at b0 b1 b2 b3 b4 b5 b6 b7 b8 b9 b10;have hB:=(((((((((((hJ.b1.set_ 0 (.int .i64 x.st.1)).set_ 1 (.int .i64 x.st.2)).set_ 2 (.int .i64 x.seq)).set_ 3 (.int .i64 x.kind)).set_ 4 (.int .i64 x.node.1)).set_ 5 (.int .i64 x.node.2)).set_ 6 (.bool bd)).set_ 7 (.int .i64 x.par.1)).set_ 8 (.int .i64 x.par.2)).set_ 9 (.string (bs x.nm))).set_ 10 (.string (bs x.mf)));have rG:=dL (((((((((((hJ.below.setCell (p:=q0) hJ.h1 (.int .i64 x.st.1)).setCell (p:=Qc q0 1) hJ.h1 (.int .i64 x.st.2)).setCell (p:=Qc q0 2) hJ.h1 (.int .i64 x.seq)).setCell (p:=Qc q0 3) hJ.h1 (.int .i64 x.kind)).setCell (p:=Qc q0 4) hJ.h1 (.int .i64 x.node.1)).setCell (p:=Qc q0 5) hJ.h1 (.int .i64 x.node.2)).setCell (p:=Qc q0 6) hJ.h1 (.bool bd)).setCell (p:=Qc q0 7) hJ.h1 (.int .i64 x.par.1)).setCell (p:=Qc q0 8) hJ.h1 (.int .i64 x.par.2)).setCell (p:=Qc q0 9) hJ.h1 (.string (bs x.nm))).setCell (p:=Qc q0 10) hJ.h1 (.string (bs x.mf)));have d0:=hB.cell 0;have d1:=hB.cell 1;have d2:=hB.cell 2;have d3:=hB.cell 3;have d4:=hB.cell 4;have d5:=hB.cell 5;have d6:=hB.cell 6;have d7:=hB.cell 7;have d8:=hB.cell 8;have d9:=hB.cell 9;have d10:=hB.cell 10;simp [sj] at d0 d1 d2 d3 d4 d5 d6 d7 d8 d9 d10;have HV:dK (ov x=.agg #[x.st.1,x.st.2,x.seq,x.kind,x.node.1,x.node.2,bd,x.par.1,x.par.2,x.nm,x.mf]):=dL (by rw [Tt.o];rfl);clear hB hJ;go_wp2_with fail;rw [HV.o];exact bodyPost_ret (v:=.tuple #[.agg #[x.st.1,x.st.2,x.seq,x.kind,x.node.1,x.node.2,bd,x.par.1,x.par.2,x.nm,x.mf],qn]) (by simp [results,results309,go_sem,d0,d1,d2,d3,d4,d5,d6,d7,d8,d9,d10]) rfl ⟨rfl,rG.o⟩
abbrev dst (fs ff:Fm.Files) (acts:List Dk.Wr):Dk.DS:=⟨1048576,fs,ff,acts,0,false⟩
theorem EF {s f:List UInt8}:Dk.laidL s s.length f=s++f:=by
 unfold Dk.laidL Dk.zeros;simp
theorem C3 (fs ff:Fm.Files) (acts:List Dk.Wr) (a:Dk.Wr):Dk.writeSt (dst fs ff acts) a=dst (Dk.doneL fs a false) ff (acts++[a]):=by
 unfold Dk.writeSt Dk.diesSt;simp
def gq (fs:Fm.Files) (a:Nat):Prop:=(fs=[]/\a=0)\/∃s,fs=[(qm,s)]/\s.length=a
theorem gq.put {fs:Fm.Files} {a:Nat} (h:gq fs a) (f:List UInt8):∃s,Dk.doneL fs ⟨qm,a,f⟩ false=[(qm,s)]/\s.length=a+f.length:=by
 rcases h with ⟨rfl,rfl⟩| ⟨s,rfl,rfl⟩
 ·refine ⟨f,?_,by omega⟩
  have:=@EF [] f;simpa [Dk.doneL,Fm.get,Fm.place,Fm.put,Dk.half] using this
 ·refine ⟨s++f,?_,by simp⟩
  have:=@EF s f;simp [Dk.doneL,Fm.get,Fm.place,Fm.put,Dk.half,this]
theorem gq.get {fs:Fm.Files} {a:Nat} (h:gq fs a):a<=((Fm.get fs qm).getD []).length:=by
 rcases h with ⟨rfl,rfl⟩| ⟨s,rfl,rfl⟩
 ·exact aS _
 ·simp [Fm.get,Fm.place]
theorem gq.tot {fs:Fm.Files} {a:Nat} (h:gq fs a):Fm.tot fs=a:=by
 rcases h with ⟨rfl,rfl⟩| ⟨s,rfl,rfl⟩ <;> simp [Fm.tot]
theorem gq.short{fs:Fm.Files} (h:gq fs a) (ha:a<=100000000):Dk.Short 100000000 fs:=by
 rcases h with ⟨rfl,rfl⟩| ⟨s,rfl,rfl⟩
 ·intro e he;cases he
 ·intro e he;simp at he;subst he;exact ha
structure fB (w wi:World) (l d nb fb:Nat) (m e:Nat) (v:Value) (st:Dk.DS):Prop where
 blk:Blk wi l 391 #[Qp d,.int .i64 (m:Nat),.int .i64 (e:Nat),false]
 dsk:Dk.Dsk w wi d nb fb v st
 kp:dm (λi=>i=d\/i=nb) w wi
 n1:l≠d
 n2:l≠nb
 hl:l < w.heap.size
theorem fB.later {w wi w':World} {l d nb fb m e:Nat} {v:Value} {st:Dk.DS} (h:fB w wi l d nb fb m e v st) (hb:Below wi wi w'):fB w w' l d nb fb m e v st:=
 ⟨h.blk.below hb h.blk.lt,h.dsk.later hb,gj h.kp hb,h.n1,h.n2,h.hl⟩
theorem fB.drew {w wi:World} {l d nb fb m e:Nat} {v:Value} {st:Dk.DS} (h:fB w wi l d nb fb m e v st):fB w wi.drew l d nb fb m e v st:=h.later (aC _ _).drew
variable {v u:Value}
theorem fB.cells {e:Nat} {st:Dk.DS} (h:fB w wi l d nb fb m e v st):wi.cell? l=Qp d:=h.blk.cell 0
variable {acts:List Dk.Wr}
theorem pY {e:Nat} {fs ff:Fm.Files} (h:fB w wi l d nb fb m e v (dst fs ff acts)) (hf:gq fs a) (ha:a<=8000) (f:List UInt8) (hl:f.length<=10000) (hac:acts.length<=10):
  Calls prog 412 #[Qp d,qm,.int .i64 (a:Nat),f] wi λe' w'=>∃v' fs',e'=.returned qn/\gq fs' (a+f.length)/\fB w w' l d nb fb m e v' (dst fs' ff (acts++[⟨qm,a,f⟩])):=by
 have htot:=hf.tot;refine (Dk.write_fr (⟨qm,a,f⟩:Dk.Wr) h.kp.size h.dsk rfl (by simp [qm]) (by simp [qm]) (by show a<=1048576;omega) (by show (1048576:Nat)<=16777216;omega) (by show acts.length<=1000;omega) (by show (0:Int)<=_;omega)
  (hf.short (by omega)) (by show f.length<=_;omega) (by show a<=8192;omega) hf.get (by show Fm.tot fs+(a+f.length)<=1048576;omega)).mono ?_
 rintro e' w' ⟨v',rfl,hd,hk⟩;obtain ⟨s,hs1,hs2⟩:=hf.put f;rw [C3] at hd ⊢;rw [hs1] at hd;refine ⟨v',[(qm,s)],rfl,.inr ⟨s,rfl,hs2⟩,h.blk.kp hk ?_,hd,eF h.kp hk ?_,h.n1,h.n2,h.hl⟩
 ·rintro (h1|h1|h1)
  ·exact h.n1 h1
  ·exact h.n2 h1
  ·have:=(h.dsk.ge l h1).1;have:=h.hl;omega
 ·rintro i hi (h1|h1|h1)
  ·exact .inl h1
  ·exact .inr h1
  ·have:=(h.dsk.ge i h1).1;omega
theorem xY {e:Nat} {fs ff:Fm.Files} (h:fB w wi l d nb fb m e v (dst fs ff acts)):
  Calls prog 307 #[Qp d] wi λe' w'=>∃qa,e'=.returned qn/\fB w w' l d nb qa m e (.slice none 0 0) (dst fs fs [])/\w.heap.size<=qa:=by
 refine (Dk.sync_any h.dsk rfl rfl).mono ?_;rintro e' w' ⟨qa,rfl,hd,hk,hf⟩;refine ⟨qa,rfl,⟨h.blk.kp hk ?_,hd,eF h.kp hk ?_,h.n1,h.n2,h.hl⟩,aI h.kp.size hf⟩
 ·rintro (h1|h1|h1)
  ·exact h.n1 h1
  ·exact h.n2 h1
  ·have:=(h.dsk.ge l h1).1;have:=h.hl;omega
 ·rintro i hi (h1|h1|h1)
  ·exact .inl h1
  ·exact .inr h1
  ·have:=(h.dsk.ge i h1).1;omega
structure Si (w:World) (l d nb fb m:Nat):Prop where
 blk:∃e:Nat,e<=2000*m/\Blk w l 391 #[Qp d,.int .i64 (m:Nat),.int .i64 (e:Nat),false]/\∃fs ff,gq fs e/\Dk.Dsk 0 w d nb fb (.slice none 0 0) (dst fs ff [])
 n1:l≠d
 n2:l≠nb
 n3:l≠fb
def LS (l d nb fb:Nat) (i:Nat):Prop:=i=l\/i=d\/i=nb\/i=fb
def zO (w:World) (F:BS) (l m:Nat):Prop:=∃d nb fb,Si w l d nb fb m/\F=LS l d nb fb
theorem nj{S:BS} {st:Dk.DS} (h:Dk.Dsk B w d nb fb (.slice none 0 0) st) (ha:st.acts=[]) (k:dm S w w') (h1:¬ S d) (h2:¬ S nb) (h3:¬ S fb) (B':Nat):Dk.Dsk B' w' d nb fb (.slice none 0 0) st:=
 ⟨h.blk.kp k h1,(k.block nb h.now.lt h2).trans h.now,(k.block fb h.firm.lt h3).trans h.firm,h.ne,by rw [ha];exact Dk.Rowed.nil_ _ _⟩
theorem zO.kp {S F:BS} {w w':World} {l m:Nat} (h:zO w F l m) (k:dm S w w') (hn:iS F S):zO w' F l m:=by
 obtain ⟨d,nb,fb,⟨⟨e,he,hb,fs,ff,hf,hd⟩,n1,n2,n3⟩,rfl⟩:=h;exact ⟨d,nb,fb,⟨⟨e,he,hb.kp k (hn l (.inl rfl)),fs,ff,hf,nj hd rfl k (hn d (.inr (.inl rfl))) (hn nb (.inr (.inr (.inl rfl)))) (hn fb (.inr (.inr (.inr rfl)))) 0⟩,n1,n2,n3⟩,rfl⟩
theorem zO.bnd{F:BS} (h:zO w F l m):G6 F w:=by
 obtain ⟨d,nb,fb,⟨⟨e,he,hb,fs,ff,hf,hd⟩,n1,n2,n3⟩,rfl⟩:=h;rintro i (rfl|rfl|rfl|rfl)
 ·exact hb.lt
 ·exact hd.blk.lt
 ·exact hd.now.lt
 ·exact hd.firm.lt
def Iy (w:World) (l d nb m e lim:Nat) (x:Ending) (w':World):Prop:=
 ∃qa fs' a,x=.returned (.tuple #[.int .i64 ((a:Nat):Int),qn])/\a<=lim/\gq fs' a/\fB w w' l d nb qa m e (.slice none 0 0) (dst fs' fs' [])/\w.heap.size<=qa
theorem fB.far {e:Nat} {st:Dk.DS} (h:fB w wi l d nb fb m e v st) {b o:Nat} (hc:w.cell? (Qc b o)=some u) (h1:b≠d) (h2:b≠nb):wi.cell? (Qc b o)=some u:=
 (aM (a:=⟨b,o,none⟩) (h.kp.block b (eB hc) (by rintro (h3|h3);exact h1 h3;exact h2 h3))).trans hc
theorem C4 {A:Option Addr} {n c k:Nat} {xs:List (List UInt8)} (h:Strs w A n c xs) (hk:k < xs.length):∃b off,A=some ⟨b,off,none⟩/\w.cell? ⟨b,off+k,none⟩=some (.string (bs xs[k])):=by
 obtain ⟨b,off,e,_,h1,_⟩:=Strs.at_ h hk;exact ⟨b,off,e,h1⟩
theorem aaa(r1:List UInt8) (Eu:r1.length<=1000) (A:Option Addr) (n c:Nat) (w:World) {fs ff:Fm.Files} (h:fB w w l d nb fb 0 0 (.slice none 0 0) (dst fs ff [])) (hf:gq fs 0) (hx:Strs w A n c [r1]) (hA:∀g off,A=some ⟨g,off,none⟩->g≠d/\g≠nb):
  Calls prog 393 #[Qp l,Qq A n c] w (Iy w l d nb 0 0 (0+1040)):=by
 have hn:=hx.len;simp at hn;subst hn;have hle:=hx.le;have lg:=hx.max;obtain ⟨b,off,rfl,s0⟩:=C4 hx (k:=0) (by simp);obtain ⟨hbd,Yf⟩:=hA b off rfl;simp only [bZ,aJ] at s0;have c1:=h.blk.cell 1;have c2:=h.blk.cell 2;simp at c1 c2;obtain ⟨f1,Cp⟩:∃f,f=om 0 r1:=⟨_,rfl⟩;have ue:f1.length<=1036:=by rw [Cp];have:=nQ 0 r1;omega
 have F8:=dL (λw=>pS 0 (by omega) r1 (by omega) w);rw [<-Cp] at F8;clear Cp;have H0:=dL h;have Tu:=dL hf;have yV:=dL s0;clear h hf hx hA;go_enter func393,ntmps393;go_wp2_with fail;refine wp_loop_rounds 2 ?_;rw [rounds_succ];go_wp2_with fail;refine (F8.o _).mono ?_;rintro x v1 ⟨rfl,hb⟩;have K1:=dL (H0.o.later hb);clear hb c1 s0 c2;have KC:=fB.cells K1.o;go_wp2_with fail;go_region_held3 (λw'=>w'.cell? l=Qp d)
  (with_reducible first|exact fB.cells H1.o|exact fB.cells M1.o|exact fB.cells K1.o|exact fB.cells (fB.drew K1.o)|exact fB.cells (fB.drew (fB.drew K1.o)))
  (first
   |(go_at_call 308;refine (AK _).mono ?_;rintro x v1n ⟨rfl,hb⟩;have M1:=dL (fB.later (fB.drew K1.o) hb);clear hb)
   |(go_at_call 412;refine (pY (a:=0) M1.o Tu.o (by omega) f1 (by omega) (by simp)).mono ?_;rintro x v1w ⟨v1,fs1,rfl,hf,hl⟩;have H1:=dL hl;have yP:dK (gq fs1 f1.length):=dL (by first|exact hf|(simpa using hf));clear hf hl))
 clear KC;go_wp2_with fail;rw [rounds_succ];have c0:=fB.cells H1.o;go_wp2_with fail;refine (xY H1.o).mono ?_;rintro x vz ⟨fb2,rfl,hl,hg⟩;have HZ:=dL hl;have HG:=dL hg;clear hl hg c0;go_wp2_with fail;go_ret2;exact ⟨fb2,_,f1.length,by simp,by omega,yP.o,HZ.o,HG.o⟩
theorem aab(r1 r2:List UInt8) (Eu:r1.length<=1000) (hr2:r2.length<=1000) (A:Option Addr) (n c:Nat) (w:World) {fs ff:Fm.Files} (h:fB w w l d nb fb 0 0 (.slice none 0 0) (dst fs ff [])) (hf:gq fs 0) (hx:Strs w A n c [r1,r2]) (hA:∀g off,A=some ⟨g,off,none⟩->g≠d/\g≠nb):
  Calls prog 393 #[Qp l,Qq A n c] w (Iy w l d nb 0 0 (0+2080)):=by
 have hn:=hx.len;simp at hn;subst hn;have hle:=hx.le;have lg:=hx.max;obtain ⟨b,off,rfl,s0⟩:=C4 hx (k:=0) (by simp);obtain ⟨hbd,Yf⟩:=hA b off rfl;obtain ⟨b2,off2,e2,s1⟩:=C4 hx (k:=1) (by simp);cases e2;simp only [aK,aJ] at s1;simp only [bZ,aJ] at s0;have c1:=h.blk.cell 1;have c2:=h.blk.cell 2;simp at c1 c2;obtain ⟨f1,Cp⟩:∃f,f=om 0 r1:=⟨_,rfl⟩;have ue:f1.length<=1036:=by rw [Cp];have:=nQ 0 r1;omega
 have F8:=dL (λw=>pS 0 (by omega) r1 (by omega) w);rw [<-Cp] at F8;clear Cp;obtain ⟨f2,Hx⟩:∃f,f=om 1 r2:=⟨_,rfl⟩;have tu:f2.length<=1036:=by rw [Hx];have:=nQ 1 r2;omega
 have abS:=dL (λw=>pS 1 (by omega) r2 (by omega) w);rw [<-Hx] at abS;clear Hx;have H0:=dL h;have Tu:=dL hf;have yV:=dL s0;have rJ:=dL s1;clear h hf hx hA;go_enter func393,ntmps393;go_wp2_with fail;refine wp_loop_rounds 3 ?_;rw [rounds_succ];go_wp2_with fail;refine (F8.o _).mono ?_;rintro x v1 ⟨rfl,hb⟩;have K1:=dL (H0.o.later hb);clear hb c1 s0 c2;have KC:=fB.cells K1.o;go_wp2_with fail;go_region_held3 (λw'=>w'.cell? l=Qp d)
  (with_reducible first|exact fB.cells H1.o|exact fB.cells M1.o|exact fB.cells K1.o|exact fB.cells (fB.drew K1.o)|exact fB.cells (fB.drew (fB.drew K1.o)))
  (first
   |(go_at_call 308;refine (AK _).mono ?_;rintro x v1n ⟨rfl,hb⟩;have M1:=dL (fB.later (fB.drew K1.o) hb);clear hb)
   |(go_at_call 412;refine (pY (a:=0) M1.o Tu.o (by omega) f1 (by omega) (by simp)).mono ?_;rintro x v1w ⟨v1,fs1,rfl,hf,hl⟩;have H1:=dL hl;have yP:dK (gq fs1 f1.length):=dL (by first|exact hf|(simpa using hf));clear hf hl))
 clear KC;go_wp2_with fail;rw [rounds_succ];have c1:=H1.o.blk.cell 1;simp at c1;have s1:=fB.far H1.o rJ.o hbd Yf;go_wp2_with fail;refine (abS.o _).mono ?_;rintro x v2 ⟨rfl,hb⟩;have K2:=dL (H1.o.later hb);clear hb c1 s1;have KC:=fB.cells K2.o;go_wp2_with fail;go_region_held3 (λw'=>w'.cell? l=Qp d)
  (with_reducible first|exact fB.cells H2.o|exact fB.cells M2.o|exact fB.cells K2.o|exact fB.cells (fB.drew K2.o)|exact fB.cells (fB.drew (fB.drew K2.o)))
  (first
   |(go_at_call 308;refine (AK _).mono ?_;rintro x v2n ⟨rfl,hb⟩;have M2:=dL (fB.later (fB.drew K2.o) hb);clear hb)
   |(go_at_call 412;refine (pY (a:=f1.length) M2.o yP.o (by omega) f2 (by omega) (by simp)).mono ?_;rintro x v2w ⟨v2,fs2,rfl,hf,hl⟩;have H2:=dL hl;have RM:dK (gq fs2 (f1.length+f2.length)):=dL (by first|exact hf|(simpa using hf));clear hf hl))
 clear KC;go_wp2_with fail;rw [rounds_succ];have c0:=fB.cells H2.o;go_wp2_with fail;refine (xY H2.o).mono ?_;rintro x vz ⟨fb2,rfl,hl,hg⟩;have HZ:=dL hl;have HG:=dL hg;clear hl hg c0;go_wp2_with fail;go_ret2;exact ⟨fb2,_,(f1.length+f2.length),by simp,by omega,RM.o,HZ.o,HG.o⟩
theorem aac(e:Nat) (he:e<=4000) (r1:List UInt8) (Eu:r1.length<=1000) (A:Option Addr) (n c:Nat) (w:World) {fs ff:Fm.Files} (h:fB w w l d nb fb 1 e (.slice none 0 0) (dst fs ff [])) (hf:gq fs e) (hx:Strs w A n c [r1]) (hA:∀g off,A=some ⟨g,off,none⟩->g≠d/\g≠nb):
  Calls prog 393 #[Qp l,Qq A n c] w (Iy w l d nb 1 e (e+1040)):=by
 have hn:=hx.len;simp at hn;subst hn;have hle:=hx.le;have lg:=hx.max;obtain ⟨b,off,rfl,s0⟩:=C4 hx (k:=0) (by simp);obtain ⟨hbd,Yf⟩:=hA b off rfl;simp only [bZ,aJ] at s0;have c1:=h.blk.cell 1;have c2:=h.blk.cell 2;simp at c1 c2;obtain ⟨f1,Cp⟩:∃f,f=om 1 r1:=⟨_,rfl⟩;have ue:f1.length<=1036:=by rw [Cp];have:=nQ 1 r1;omega
 have F8:=dL (λw=>pS 1 (by omega) r1 (by omega) w);rw [<-Cp] at F8;clear Cp;have H0:=dL h;have Tu:=dL hf;have yV:=dL s0;clear h hf hx hA;go_enter func393,ntmps393;go_wp2_with fail;refine wp_loop_rounds 2 ?_;rw [rounds_succ];go_wp2_with fail;refine (F8.o _).mono ?_;rintro x v1 ⟨rfl,hb⟩;have K1:=dL (H0.o.later hb);clear hb c1 s0 c2;have KC:=fB.cells K1.o;go_wp2_with fail;go_region_held3 (λw'=>w'.cell? l=Qp d)
  (with_reducible first|exact fB.cells H1.o|exact fB.cells M1.o|exact fB.cells K1.o|exact fB.cells (fB.drew K1.o)|exact fB.cells (fB.drew (fB.drew K1.o)))
  (first
   |(go_at_call 308;refine (AK _).mono ?_;rintro x v1n ⟨rfl,hb⟩;have M1:=dL (fB.later (fB.drew K1.o) hb);clear hb)
   |(go_at_call 412;refine (pY (a:=e) M1.o Tu.o (by omega) f1 (by omega) (by simp)).mono ?_;rintro x v1w ⟨v1,fs1,rfl,hf,hl⟩;have H1:=dL hl;have yP:dK (gq fs1 (e+f1.length)):=dL (by first|exact hf|(simpa using hf));clear hf hl))
 clear KC;go_wp2_with fail;rw [rounds_succ];have c0:=fB.cells H1.o;go_wp2_with fail;refine (xY H1.o).mono ?_;rintro x vz ⟨fb2,rfl,hl,hg⟩;have HZ:=dL hl;have HG:=dL hg;clear hl hg c0;go_wp2_with fail;go_ret2;exact ⟨fb2,_,(e+f1.length),by simp,by omega,yP.o,HZ.o,HG.o⟩
def recB (s:List UInt8):Bool:=decide (s≠[]) && decide (s.length<=2000)
theorem GW (s:List UInt8) (w:World):Calls prog 390 #[s] w λe w'=>e=.returned (recB s)/\w=w':=by
 by_cases h:s=[]
 ·subst h
  go_enter func390,ntmps390;go_wp2_with fail;go_ret;exact ⟨rfl,rfl⟩
 ·have c0:(s ==[])=false:=by rw [beq_eq_false_iff_ne];exact h
  have hr:recB s=decide (s.length<=2000):=by unfold recB;simp [h]
  have c1:decide ((s.length:Int)<=2000)=decide (s.length<=2000):=by
   rw [decide_eq_decide];omega
  rw [hr];have HC:=dL c1;clear hr c1;go_enter func390,ntmps390;go_wp2_with fail;go_ret;exact ⟨by first|rfl|(rw [<-HC.o];rfl),rfl⟩
theorem WO (s:List UInt8) (w:World):Calls prog 392 #[s] w (dM w (.bool (!recB s))):=by
 have H:=dL (GW s);obtain ⟨b,hb⟩:=dG (recB s);rw [<-hb] at H ⊢;clear hb;have hnot:∀(x:Bool) (w:World),(Op.unary .not (.bool x)).run prog w=.ok (.bool (!x)) w:=λ_ _=>rfl
 go_enter func392,ntmps392;go_wp2_with fail;refine (H.o _).mono ?_;rintro e w1 ⟨rfl,rfl⟩;go_wp2_with fail;go_ret;exact ⟨rfl,aC _ _⟩
theorem L6 (args:Array Value) (w:World):(callFunc 392 args).run prog w=.ok (.enter 392 args) w:=enters_of func392 (by kernel_rfl) rfl args w
theorem GX {F:BS} (h:zO w F l m) (A:Option Addr) (n c:Nat) (xs:List (List UInt8)) (hx:Strs w A n c xs) (hr:∀r∈xs,1<=r.length/\r.length<=1000) (hA:∀g off,A=some ⟨g,off,none⟩->¬ F g) (hn:1<=n) (hk:m=0/\n=1\/m=0/\n=2\/m=1/\n=1):
  Calls prog 360 #[Qp l,Qq A n c] w λe w'=>∃F',e=.returned qn/\zO w' F' l (m+n)/\iP F F' w w':=by
 obtain ⟨d,nb,fb,⟨⟨e0,he,hb,fs,ff,hf,hd⟩,n1,n2,n3⟩,rfl⟩:=h;have abT:xs.any (λs=>!recB s)=false:=by
  rw [List.any_eq_false];intro s hs;have:=hr s hs;unfold recB;have h1:s≠[]:=by intro e;rw [e] at this;simp at this
  simp [h1];omega
 have HC:=dL (qS 392 (λs=>!recB s) L6 A n c xs w hx (λx wr _=>WO x wr));rw [abT] at HC;have hlen:=hx.len;have hle:=hx.le;have lg:=hx.max;have abU:∀w1,Below w w w1->Calls prog 393 #[Qp l,Qq A n c] w1 (Iy w1 l d nb m e0 (e0+1040*n)):=by
  intro w1 dV;have hI:fB w1 w1 l d nb fb m e0 (.slice none 0 0) (dst fs ff []):=⟨hb.below dV hb.lt,nj hd rfl (eO (S:=λ_=>False) dV) id id id _,eT _ _,n1,n2,aN hb.lt dV.size⟩;have hx1:=hx.below dV;have Th:∀g off,A=some ⟨g,off,none⟩->g≠d/\g≠nb:=λg off e=> ⟨λe2=>hA g off e (.inr (.inl e2)),λe2=>hA g off e (.inr (.inr (.inl e2)))⟩
  rcases hk with ⟨rfl,rfl⟩| ⟨rfl,rfl⟩| ⟨rfl,rfl⟩
  ·obtain rfl:e0=0:=by omega
   obtain ⟨r1,rfl⟩:∃r1,xs=[r1]:=List.length_eq_one_iff.1 hlen;exact aaa r1 (hr r1 (by simp)).2 A 1 c w1 hI hf hx1 Th
  ·obtain rfl:e0=0:=by omega
   obtain ⟨r1,r2,rfl⟩:∃r1 r2,xs=[r1,r2]:=by match xs,hlen with| [a,b],_=>exact ⟨a,b,rfl⟩
   exact aab r1 r2 (hr r1 (by simp)).2 (hr r2 (by simp)).2 A 2 c w1 hI hf hx1 Th
  ·obtain ⟨r1,rfl⟩:∃r1,xs=[r1]:=List.length_eq_one_iff.1 hlen
   exact aac e0 (by omega) r1 (hr r1 (by simp)).2 A 1 c w1 hI hf hx1 Th
 have c3:=hb.cell 3;simp at c3;have VT:decide ((m:Int)+(n:Int) > 800)=false:=by simp;omega
 have agG:decide ((m:Int)+(n:Int)<=800)=true:=by simp;omega
 have hn0:((n:Int) ==0)=false:=by simp;omega
 have hwr:wrap64 ((m:Int)+(n:Int))=(m:Int)+(n:Int):=by unfold wrap64;omega
 have HL:=dL abU;have HB:=dL hb;have HN:=dL (And.intro n1 (And.intro n2 n3));have HE:=dL he;have HK:dK (m<=1/\n<=2):=dL (by omega);have yu:m<=1:=by omega
 have hn2:n<=2:=by omega
 have HD:=dL hd;clear abU hb he hk hd hx hA abT hr hlen hf n1 n2 n3;go_enter func360,ntmps360;go_wp2_with fail;refine HC.o.mono ?_;rintro x w1 ⟨rfl,dV⟩;have abV:=HB.o.below dV HB.o.lt;have c1:=abV.cell 1;simp at c1;have eR:=dL dV;clear dV abV c3;go_wp2_with fail;refine (HL.o w1 eR.o).mono ?_;rintro x w2 ⟨qa,fs',a,rfl,ha,hf,hI,hg⟩;have c1:=hI.blk.cell 1;have c2:=hI.blk.cell 2;have z1:=hI.blk.frozen 1;have z2:=hI.blk.frozen 2;simp at c1 c2;have vO:=(hI.blk.set_ 1 (.int .i64 ((m:Int)+(n:Int)))).set_ 2 (.int .i64 ((a:Nat):Int));have hg3:w2.grownBy ((w2.setCell (Qc l 1) (.int .i64 ((m:Int)+(n:Int)))).setCell (Qc l 2) (a:Nat)) (some l):=dh (dh (dz w2 _) (p:=Qc l 1) (.inl rfl) _) (p:=Qc l 2) (.inl rfl) _;have hnl:l≠qa:=by have:=hI.hl;omega
 have M0:Dk.Dsk 0 ((w2.setCell (Qc l 1) (.int .i64 ((m:Int)+(n:Int)))).setCell (Qc l 2) (a:Nat)) d nb qa (.slice none 0 0) (dst fs' fs' []):=
  nj hI.dsk rfl (ek (S:=λi=>i=l) hg3 (λi e=>by cases e;rfl)) (λe=>hI.n1 e.symm) (λe=>hI.n2 e.symm) (λe=>hnl e.symm) 0
 have HLF:dK (zO ((w2.setCell (Qc l 1) (.int .i64 ((m:Int)+(n:Int)))).setCell (Qc l 2) (a:Nat)) (LS l d nb qa) l (m+n)):=dL
  ⟨d,nb,qa,⟨⟨a,by have:=HE.o;omega,by rw [Int.natCast_add];simpa using vO,fs',fs',hf,M0⟩,hI.n1,hI.n2,hnl⟩,rfl⟩
 have r8:dK (iP (LS l d nb fb) (LS l d nb qa) w ((w2.setCell (Qc l 1) (.int .i64 ((m:Int)+(n:Int)))).setCell (Qc l 2) (a:Nat))):=dL
  ⟨eF (eF (eO (S:=LS l d nb fb) eR.o) hI.kp (λi _ h=>by rcases h with h|h;exact .inr (.inl h);exact .inr (.inr (.inl h)))) (ek (S:=LS l d nb fb) hg3 (λi e=>by cases e;exact .inl rfl)) (λ_ _ h=>h),
   λi hi=>by
   rcases hi with h|h|h|h
   ·exact .inl (.inl h)
   ·exact .inl (.inr (.inl h))
   ·exact .inl (.inr (.inr (.inl h)))
   ·exact .inr (by have:=eR.o.size;omega)⟩
 clear vO hg3 M0 hI hf hg ha hnl;go_wp2_with fail;go_ret;exact ⟨_,rfl,HLF.o,r8.o⟩
end
end Go.Proofs.YtgdaahffmcfhpaaGreatDoor
