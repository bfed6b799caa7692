/- Lemmas on the way: Ac Ag Ah Ai. -/
import Derived.Test.YtgdaahffmcfhpaaGreatDoorT28
import Derived.Test.YtgdaahffmcfhpaaGreatDoorT29
import Derived.Test.YtgdaahffmcfhpaaGreatDoorT00
set_option maxRecDepth 100000
set_option maxHeartbeats 8000000
namespace Go.Proofs.YtgdaahffmcfhpaaGreatDoor
open Tryz
section
open Go.RowKit
attribute [local go_sem] dO dL dQ dM
def xm (b:Bool):Int:=if b then 1 else 0
def FJ (x:dV) (r:List UInt8):List UInt8:=
 oA x.st++(Pt.Cd.numL x.seq++(Pt.Cd.numL x.kind++(oA x.node++(Pt.Cd.numL (xm x.dir)++(oA x.par++(Pt.Cd.textL x.nm++(Pt.Cd.textL x.mf++r)))))))
def gG (x:dV):List UInt8:=FJ x []
structure D7 (x:dV):Prop where
 st:nU x.st.1/\nU x.st.2
 seq:nU x.seq
 kind:nU x.kind
 node:nU x.node.1/\nU x.node.2
 par:nU x.par.1/\nU x.par.2
 nm:x.nm.length<=1000
 mf:x.mf.length<=1000
theorem MQ (b:Bool):nU (xm b):=by cases b <;> (unfold xm nU;simp)
theorem kI (s:St):(oA s).length<=18:=by
 unfold oA;have h1:=eL s.1;have h2:=eL s.2;simp only [aO];omega
theorem l8 (x:dV) (h:D7 x):(gG x).length<=2200:=by
 unfold gG FJ;have h1:=kI x.st;have h2:=kI x.node;have h3:=kI x.par;have h4:=eL x.seq;have h5:=eL x.kind;have h6:=eL (xm x.dir);have h7:=fK x.nm;have h8:=fK x.mf;have h9:=h.nm;have h10:=h.mf;simp only [aO,ah];omega
def rU:List Value:=[.int .i64 0,.int .i64 0,.int .i64 0,.int .i64 0,.int .i64 0,.int .i64 0,.bool false,.int .i64 0,.int .i64 0,.string ⟨#[]⟩,.string ⟨#[]⟩]
structure qG (w wi:World) (q1 g q2:Nat) (cs:List Value) (r:List UInt8):Prop where
 below:Below w.heap.size w wi
 b1:Blk wi q1 32 rU.toArray
 b2:Blk wi q2 32 cs.toArray
 rd:tw wi g r
 hg:w.heap.size<=g
 h1:w.heap.size<=q1
 h2:w.heap.size<=q2
 n1:q1≠q2
 n2:g≠q1
 n3:g≠q2
theorem qG.call {w wi w':World} {q1 g q2:Nat} {cs:List Value} {r r':List UInt8} (h:qG w wi q1 g q2 cs r) (hg:wi.grownBy w' (some g)) (hr:tw w' g r'):qG w w' q1 g q2 cs r':=
 ⟨ef h.below hg h.hg h.below.size,h.b1.grown hg (by intro e;cases e;exact h.n2 rfl),h.b2.grown hg (by intro e;cases e;exact h.n3 rfl),hr,h.hg,h.h1,h.h2,h.n1,h.n2,h.n3⟩
theorem qG.later {w wi w':World} {q1 g q2:Nat} {cs:List Value} {r:List UInt8} (h:qG w wi q1 g q2 cs r) (hb:Below wi.heap.size wi w'):qG w w' q1 g q2 cs r:=
 ⟨h.below.trans (hb.mono h.below.size),h.b1.below hb h.b1.lt,h.b2.below hb h.b2.lt,h.rd.below hb,h.hg,h.h1,h.h2,h.n1,h.n2,h.n3⟩
theorem qG.store {w wi:World} {q1 g q2:Nat} {cs:List Value} {r:List UInt8} (h:qG w wi q1 g q2 cs r) (k:Nat) (v:Value):qG w (wi.setCell ⟨q2,k,none⟩ v) q1 g q2 (cs.set k v) r:=by
 refine ⟨h.below.setCell (p:=⟨q2,k,none⟩) h.h2 v,h.b1.far (p:=⟨q2,k,none⟩) h.n1 v,?_,h.rd.far (dh (dx wi _) (p:=⟨q2,k,none⟩) (.inl rfl) v) h.n3,h.hg,h.h1,h.h2,h.n1,h.n2,h.n3⟩;have:=h.b2.set_ k v;simpa using this
theorem qG.f {w wi:World} {q1 g q2:Nat} {cs:List Value} {r:List UInt8} (h:qG w wi q1 g q2 cs r) (k:Nat):wi.frozen? ⟨q2,k,none⟩=false:=h.b2.frozen k
theorem qG.c {w wi:World} {q1 g q2:Nat} {cs:List Value} {r:List UInt8} (h:qG w wi q1 g q2 cs r) (k:Nat):wi.cell? ⟨q2,k,none⟩=cs[k]?:=by rw [h.b2.cell];simp
theorem JW (w:World) (d:List UInt8) (hd:d.length<=1000000):
  Calls prog 214 #[.string (bs d)] (w.alloc (.cells rU.toArray 32)) fun e w'=>∃g,e=.returned (.pointer (some ⟨g,0,none⟩))/\qG w (w'.alloc (.cells rU.toArray 32)) w.heap.size g w'.heap.size rU d:=by
 refine (AF d hd _).mono ?_;rintro e w' ⟨rfl,hr,hb⟩;have hs:(w.alloc (.cells rU.toArray 32)).heap.size=w.heap.size+1:=aZ _;have hlt:=hr.lt;have dR:=(Blk.new w 32 rU.toArray).below hb (by omega);have qT:=((aC w.heap.size w).alloc (aB _) (.cells rU.toArray 32)).trans (hb.mono (by omega));have hss:=hb.size;exact ⟨_,rfl,qT.alloc (by omega) _,dR.alloc _,Blk.new w' 32 rU.toArray,hr.below ((aC _ _).alloc (aB _) _),by omega,aB _,by omega,by omega,by omega,by omega⟩
theorem FK (x:dV) (hx:D7 x) (hrc:r9 x=0) (w:World):
  Calls prog 309 #[.string (bs (gG x))] w (dJ w (.tuple #[ov x,.int .i64 0])):=by
 have hl:=l8 x hx;have HS:=dH (JW w (gG x) (by omega));have HR:=dH (fun w=>jL x (by have:=hx.nm;omega) (by have:=hx.mf;omega) w);rw [hrc] at HR;have HX:=dH hx;clear hx hl hrc;obtain ⟨q0,Oo⟩:=dB w.heap.size;have Uj:=dH Oo;go_enter func309,ntmps309;go_wp2_with fail;refine HS.o.mono ?_;rintro e w1 ⟨g,rfl,hI⟩;clear HS;obtain ⟨q2,iK⟩:=dB w1.heap.size;obtain ⟨w2,eV⟩:=dB (w1.alloc (.cells #[.int .i64 0,.int .i64 0,.int .i64 0,.int .i64 0,.int .i64 0,.int .i64 0,.bool false,.int .i64 0,.int .i64 0,.string ⟨#[]⟩,.string ⟨#[]⟩] 32));have RN:qG w w2 q0 g q2 rU (FJ x []):=by rw [eV,iK,Oo];exact hI
 have HW:=dH eV;have HQ:=dH iK;have I0:=dH RN;clear hI RN eV iK Oo;unfold FJ at I0;go_wp2_with fail;rw [<-HW.o,<-HQ.o,<-Uj.o];refine (AH x.st HX.o.st.1 HX.o.st.2 I0.o.rd).mono ?_;rintro e v1 ⟨rfl,hr,hg⟩;have hJ:=I0.o.call hg hr;clear hr hg;unfold sv;have f0:=hJ.f 0;have c0:=hJ.c 0;have f1:=hJ.f 1;have c1:=hJ.c 1;simp [rU] at c0 c1;obtain ⟨u1,hu⟩:∃u,u=((v1.setCell ⟨q2,0,none⟩ (.int .i64 x.st.1)).setCell ⟨q2,1,none⟩ (.int .i64 x.st.2)):=⟨_,rfl⟩;have lY:=((hJ.store 0 (.int .i64 x.st.1)).store 1 (.int .i64 x.st.2));rw [<-hu] at lY;have HU:=dH hu;have I1:=dH lY;clear hJ lY hu;go_wp2_with fail;rw [<-HU.o];clear HU f0 c0 f1 c1 I0;refine (kZ x.seq HX.o.seq I1.o.rd).mono ?_;rintro e v2 ⟨rfl,hr,hg⟩;have hJ:=I1.o.call hg hr;clear hr hg;have f2:=hJ.f 2;have c2:=hJ.c 2;simp [rU] at c2;obtain ⟨u2,hu⟩:∃u,u=(v2.setCell ⟨q2,2,none⟩ (.int .i64 x.seq)):=⟨_,rfl⟩;have lY:=(hJ.store 2 (.int .i64 x.seq));rw [<-hu] at lY;have HU:=dH hu;have I2:=dH lY;clear hJ lY hu;go_wp2_with fail;rw [<-HU.o];clear HU f2 c2 I1;refine (kZ x.kind HX.o.kind I2.o.rd).mono ?_;rintro e v3 ⟨rfl,hr,hg⟩;have hJ:=I2.o.call hg hr;clear hr hg;have f3:=hJ.f 3;have c3:=hJ.c 3;simp [rU] at c3;obtain ⟨u3,hu⟩:∃u,u=(v3.setCell ⟨q2,3,none⟩ (.int .i64 x.kind)):=⟨_,rfl⟩;have lY:=(hJ.store 3 (.int .i64 x.kind));rw [<-hu] at lY;have HU:=dH hu;have I3:=dH lY;clear hJ lY hu;go_wp2_with fail;rw [<-HU.o];clear HU f3 c3 I2;refine (AH x.node HX.o.node.1 HX.o.node.2 I3.o.rd).mono ?_;rintro e v4 ⟨rfl,hr,hg⟩;have hJ:=I3.o.call hg hr;clear hr hg;unfold sv;have f4:=hJ.f 4;have c4:=hJ.c 4;have f5:=hJ.f 5;have c5:=hJ.c 5;simp [rU] at c4 c5;obtain ⟨u4,hu⟩:∃u,u=((v4.setCell ⟨q2,4,none⟩ (.int .i64 x.node.1)).setCell ⟨q2,5,none⟩ (.int .i64 x.node.2)):=⟨_,rfl⟩;have lY:=((hJ.store 4 (.int .i64 x.node.1)).store 5 (.int .i64 x.node.2));rw [<-hu] at lY;have HU:=dH hu;have I4:=dH lY;clear hJ lY hu;go_wp2_with fail;rw [<-HU.o];clear HU f4 c4 f5 c5 I3;refine (kZ (xm x.dir) (MQ _) I4.o.rd).mono ?_;rintro e v5 ⟨rfl,hr,hg⟩;have hJ:=I4.o.call hg hr;clear hr hg;have I5:=dH hJ;clear hJ I4;go_wp2_with fail;refine (AH x.par HX.o.par.1 HX.o.par.2 I5.o.rd).mono ?_;rintro e v6 ⟨rfl,hr,hg⟩;have hJ:=I5.o.call hg hr;clear hr hg;unfold sv;have f7:=hJ.f 7;have c7:=hJ.c 7;have f8:=hJ.f 8;have c8:=hJ.c 8;simp [rU] at c7 c8;obtain ⟨u6,hu⟩:∃u,u=((v6.setCell ⟨q2,7,none⟩ (.int .i64 x.par.1)).setCell ⟨q2,8,none⟩ (.int .i64 x.par.2)):=⟨_,rfl⟩;have lY:=((hJ.store 7 (.int .i64 x.par.1)).store 8 (.int .i64 x.par.2));rw [<-hu] at lY;have HU:=dH hu;have I6:=dH lY;clear hJ lY hu;go_wp2_with fail;rw [<-HU.o];clear HU f7 c7 f8 c8 I5;refine (AG x.nm I6.o.rd (by have:=HX.o.nm;omega)).mono ?_;rintro e v7 ⟨rfl,hr,hg⟩;have hJ:=I6.o.call hg hr;clear hr hg;have f9:=hJ.f 9;have c9:=hJ.c 9;simp [rU] at c9;obtain ⟨u7,hu⟩:∃u,u=(v7.setCell ⟨q2,9,none⟩ (.string (bs x.nm))):=⟨_,rfl⟩;have lY:=(hJ.store 9 (.string (bs x.nm)));rw [<-hu] at lY;have HU:=dH hu;have I7:=dH lY;clear hJ lY hu;go_wp2_with fail;rw [<-HU.o];clear HU f9 c9 I6;refine (AG x.mf I7.o.rd (by have:=HX.o.mf;omega)).mono ?_;rintro e v8 ⟨rfl,hr,hg⟩;have hJ:=I7.o.call hg hr;clear hr hg;have f10:=hJ.f 10;have jt:=hJ.c 10;simp [rU] at jt;obtain ⟨u8,hu⟩:∃u,u=(v8.setCell ⟨q2,10,none⟩ (.string (bs x.mf))):=⟨_,rfl⟩;have lY:=(hJ.store 10 (.string (bs x.mf)));rw [<-hu] at lY;have HU:=dH hu;have I8:=dH lY;clear hJ lY hu;go_wp2_with fail;rw [<-HU.o];clear HU f10 jt I7;refine (Gg I8.o.rd).mono ?_;rintro e v9 ⟨rfl,hb⟩;have hJ:=I8.o.later hb;clear hb;have f6:=hJ.f 6;have c6:=hJ.c 6;simp [rU] at c6;obtain ⟨bd,hbd⟩:=dB x.dir;have sX:(xm x.dir ==1)=bd:=by rw [hbd];cases x.dir <;> rfl
 have RR:decide (xm x.dir < 0)=false:=by cases x.dir <;> rfl
 have tX:decide (xm x.dir > 1)=false:=by cases x.dir <;> rfl
 obtain ⟨u9,hu⟩:∃u,u=v9.setCell ⟨q2,6,none⟩ (.bool bd):=⟨_,rfl⟩;have lY:=hJ.store 6 (.bool bd);rw [<-hu] at lY;have HU:=dH hu;have c0:=hJ.c 0;have c1:=hJ.c 1;have c2:=hJ.c 2;have c3:=hJ.c 3;have c4:=hJ.c 4;have c5:=hJ.c 5;have c7:=hJ.c 7;have c8:=hJ.c 8;have c9:=hJ.c 9;have jt:=hJ.c 10;simp [rU] at c0 c1 c2 c3 c4 c5 c7 c8 c9 jt;have I9:=dH lY;have Kq:=dH hbd;clear hJ lY hbd;have HRu:=dH (HR.o u9);unfold ov at HRu;rw [<-Kq.o] at HRu;clear hu;go_wp2_with fail;rw [<-HU.o];refine HRu.o.mono ?_;rintro e Ku ⟨rfl,hb⟩;have hJ:=I9.o.later hb;clear hb HRu HU I9;have c0:=hJ.c 0;have c1:=hJ.c 1;have c2:=hJ.c 2;have c3:=hJ.c 3;have c4:=hJ.c 4;have c5:=hJ.c 5;have c6:=hJ.c 6;have c7:=hJ.c 7;have c8:=hJ.c 8;have c9:=hJ.c 9;have jt:=hJ.c 10;simp [rU] at c0 c1 c2 c3 c4 c5 c6 c7 c8 c9 jt;have g0:=hJ.b1.frozen 0;have b0:=hJ.b1.cell 0;have g1:=hJ.b1.frozen 1;have b1:=hJ.b1.cell 1;have g2:=hJ.b1.frozen 2;have b2:=hJ.b1.cell 2;have g3:=hJ.b1.frozen 3;have b3:=hJ.b1.cell 3;have g4:=hJ.b1.frozen 4;have b4:=hJ.b1.cell 4;have g5:=hJ.b1.frozen 5;have b5:=hJ.b1.cell 5;have g6:=hJ.b1.frozen 6;have b6:=hJ.b1.cell 6;have g7:=hJ.b1.frozen 7;have b7:=hJ.b1.cell 7;have g8:=hJ.b1.frozen 8;have b8:=hJ.b1.cell 8;have g9:=hJ.b1.frozen 9;have b9:=hJ.b1.cell 9;have g10:=hJ.b1.frozen 10;have b10:=hJ.b1.cell 10;simp [rU] at b0 b1 b2 b3 b4 b5 b6 b7 b8 b9 b10;have hB:=(((((((((((hJ.b1.set_ 0 (.int .i64 x.st.1)).set_ 1 (.int .i64 x.st.2)).set_ 2 (.int .i64 x.seq)).set_ 3 (.int .i64 x.kind)).set_ 4 (.int .i64 x.node.1)).set_ 5 (.int .i64 x.node.2)).set_ 6 (.bool bd)).set_ 7 (.int .i64 x.par.1)).set_ 8 (.int .i64 x.par.2)).set_ 9 (.string (bs x.nm))).set_ 10 (.string (bs x.mf)));have EJ:=dH (((((((((((hJ.below.setCell (p:=⟨q0,0,none⟩) hJ.h1 (.int .i64 x.st.1)).setCell (p:=⟨q0,1,none⟩) hJ.h1 (.int .i64 x.st.2)).setCell (p:=⟨q0,2,none⟩) hJ.h1 (.int .i64 x.seq)).setCell (p:=⟨q0,3,none⟩) hJ.h1 (.int .i64 x.kind)).setCell (p:=⟨q0,4,none⟩) hJ.h1 (.int .i64 x.node.1)).setCell (p:=⟨q0,5,none⟩) hJ.h1 (.int .i64 x.node.2)).setCell (p:=⟨q0,6,none⟩) hJ.h1 (.bool bd)).setCell (p:=⟨q0,7,none⟩) hJ.h1 (.int .i64 x.par.1)).setCell (p:=⟨q0,8,none⟩) hJ.h1 (.int .i64 x.par.2)).setCell (p:=⟨q0,9,none⟩) hJ.h1 (.string (bs x.nm))).setCell (p:=⟨q0,10,none⟩) hJ.h1 (.string (bs x.mf)));have d0:=hB.cell 0;have d1:=hB.cell 1;have d2:=hB.cell 2;have d3:=hB.cell 3;have d4:=hB.cell 4;have d5:=hB.cell 5;have d6:=hB.cell 6;have d7:=hB.cell 7;have d8:=hB.cell 8;have d9:=hB.cell 9;have d10:=hB.cell 10;simp [rU] at d0 d1 d2 d3 d4 d5 d6 d7 d8 d9 d10;have HV:dG (ov x=.agg #[.int .i64 x.st.1,.int .i64 x.st.2,.int .i64 x.seq,.int .i64 x.kind,.int .i64 x.node.1,.int .i64 x.node.2,.bool bd,.int .i64 x.par.1,.int .i64 x.par.2,.string (bs x.nm),.string (bs x.mf)]):=dH (by rw [Kq.o];rfl);clear hB hJ;go_wp2_with fail;rw [HV.o];exact bodyPost_ret (v:=.tuple #[.agg #[.int .i64 x.st.1,.int .i64 x.st.2,.int .i64 x.seq,.int .i64 x.kind,.int .i64 x.node.1,.int .i64 x.node.2,.bool bd,.int .i64 x.par.1,.int .i64 x.par.2,.string (bs x.nm),.string (bs x.mf)],.int .i64 0]) (by simp [results,results309,go_sem,d0,d1,d2,d3,d4,d5,d6,d7,d8,d9,d10]) rfl ⟨rfl,EJ.o⟩
abbrev dst (fs ff:Fm.Files) (acts:List Dk.Wr):Dk.DS:=⟨1048576,fs,ff,acts,0,false⟩
theorem D8 {s f:List UInt8}:Dk.laidL s s.length f=s++f:=by
 unfold Dk.laidL Dk.zeros;simp
theorem Ae (fs ff:Fm.Files) (acts:List Dk.Wr) (a:Dk.Wr):Dk.writeSt (dst fs ff acts) a=dst (Dk.doneL fs a false) ff (acts++[a]):=by
 unfold Dk.writeSt Dk.diesSt;simp
def gJ (fs:Fm.Files) (a:Nat):Prop:=(fs=[]/\a=0)\/∃s,fs=[(qA,s)]/\s.length=a
theorem gJ.put {fs:Fm.Files} {a:Nat} (h:gJ fs a) (f:List UInt8):∃s,Dk.doneL fs ⟨qA,a,f⟩ false=[(qA,s)]/\s.length=a+f.length:=by
 rcases h with ⟨rfl,rfl⟩| ⟨s,rfl,rfl⟩
 ·refine ⟨f,?_,by omega⟩
  have:=@D8 [] f;simpa [Dk.doneL,Fm.get,Fm.place,Fm.put,Dk.half] using this
 ·refine ⟨s++f,?_,by simp⟩
  have:=@D8 s f;simp [Dk.doneL,Fm.get,Fm.place,Fm.put,Dk.half,this]
theorem gJ.get {fs:Fm.Files} {a:Nat} (h:gJ fs a):a<=((Fm.get fs qA).getD []).length:=by
 rcases h with ⟨rfl,rfl⟩| ⟨s,rfl,rfl⟩
 ·exact aT _
 ·simp [Fm.get,Fm.place]
theorem gJ.tot {fs:Fm.Files} {a:Nat} (h:gJ fs a):Fm.tot fs=a:=by
 rcases h with ⟨rfl,rfl⟩| ⟨s,rfl,rfl⟩ <;> simp [Fm.tot]
theorem gJ.short {fs:Fm.Files} {a:Nat} (h:gJ fs a) (ha:a<=100000000):Dk.Short 100000000 fs:=by
 rcases h with ⟨rfl,rfl⟩| ⟨s,rfl,rfl⟩
 ·intro e he;cases he
 ·intro e he;simp at he;subst he;exact ha
structure er (w wi:World) (l d nb fb:Nat) (m e:Nat) (v:Value) (st:Dk.DS):Prop where
 blk:Blk wi l 391 #[.pointer (some ⟨d,0,none⟩),.int .i64 (m:Nat),.int .i64 (e:Nat),.bool false]
 dsk:Dk.Dsk w.heap.size wi d nb fb v st
 kp:dY (fun i=>i=d\/i=nb) w wi
 n1:l≠d
 n2:l≠nb
 hl:l < w.heap.size
theorem er.later {w wi w':World} {l d nb fb m e:Nat} {v:Value} {st:Dk.DS} (h:er w wi l d nb fb m e v st) (hb:Below wi.heap.size wi w'):er w w' l d nb fb m e v st:=
 ⟨h.blk.below hb h.blk.lt,h.dsk.later hb,gI h.kp hb,h.n1,h.n2,h.hl⟩
theorem er.drew {w wi:World} {l d nb fb m e:Nat} {v:Value} {st:Dk.DS} (h:er w wi l d nb fb m e v st):er w wi.drew l d nb fb m e v st:=h.later (aC _ _).drew
theorem er.cells {w wi:World} {l d nb fb m e:Nat} {v:Value} {st:Dk.DS} (h:er w wi l d nb fb m e v st):wi.cell? ⟨l,0,none⟩=some (.pointer (some ⟨d,0,none⟩)):=h.blk.cell 0
theorem og {w wi:World} {l d nb fb m e a:Nat} {v:Value} {fs ff:Fm.Files} {acts:List Dk.Wr} (h:er w wi l d nb fb m e v (dst fs ff acts)) (hf:gJ fs a) (ha:a<=8000) (f:List UInt8) (hl:f.length<=10000) (hac:acts.length<=10):
  Calls prog 412 #[.pointer (some ⟨d,0,none⟩),.string (bs qA),.int .i64 (a:Nat),.string (bs f)] wi fun e' w'=>∃v' fs',e'=.returned (.int .i64 0)/\gJ fs' (a+f.length)/\er w w' l d nb fb m e v' (dst fs' ff (acts++[⟨qA,a,f⟩])):=by
 have htot:=hf.tot;refine (Dk.write_fr (⟨qA,a,f⟩:Dk.Wr) h.kp.size h.dsk rfl (by simp [qA]) (by simp [qA]) (by show a<=1048576;omega) (by show (1048576:Nat)<=16777216;omega) (by show acts.length<=1000;omega) (by show (0:Int)<=_;omega)
  (hf.short (by omega)) (by show f.length<=_;omega) (by show a<=8192;omega) hf.get (by show Fm.tot fs+(a+f.length)<=1048576;omega)).mono ?_
 rintro e' w' ⟨v',rfl,hd,hk⟩;obtain ⟨s,hs1,hs2⟩:=hf.put f;rw [Ae] at hd ⊢;rw [hs1] at hd;refine ⟨v',[(qA,s)],rfl,.inr ⟨s,rfl,hs2⟩,h.blk.kp hk ?_,hd,eB h.kp hk ?_,h.n1,h.n2,h.hl⟩
 ·rintro (h1|h1|h1)
  ·exact h.n1 h1
  ·exact h.n2 h1
  ·have:=(h.dsk.ge l h1).1;have:=h.hl;omega
 ·rintro i hi (h1|h1|h1)
  ·exact .inl h1
  ·exact .inr h1
  ·have:=(h.dsk.ge i h1).1;omega
theorem wE {w wi:World} {l d nb fb m e:Nat} {v:Value} {fs ff:Fm.Files} {acts:List Dk.Wr} (h:er w wi l d nb fb m e v (dst fs ff acts)):
  Calls prog 307 #[.pointer (some ⟨d,0,none⟩)] wi fun e' w'=>∃pU,e'=.returned (.int .i64 0)/\er w w' l d nb pU m e (.slice none 0 0) (dst fs fs [])/\w.heap.size<=pU:=by
 refine (Dk.sync_any h.dsk rfl rfl).mono ?_;rintro e' w' ⟨pU,rfl,hd,hk,hf⟩;refine ⟨pU,rfl,⟨h.blk.kp hk ?_,hd,eB h.kp hk ?_,h.n1,h.n2,h.hl⟩,aK h.kp.size hf⟩
 ·rintro (h1|h1|h1)
  ·exact h.n1 h1
  ·exact h.n2 h1
  ·have:=(h.dsk.ge l h1).1;have:=h.hl;omega
 ·rintro i hi (h1|h1|h1)
  ·exact .inl h1
  ·exact .inr h1
  ·have:=(h.dsk.ge i h1).1;omega
structure Qi (w:World) (l d nb fb m:Nat):Prop where
 blk:∃e:Nat,e<=2000*m/\Blk w l 391 #[.pointer (some ⟨d,0,none⟩),.int .i64 (m:Nat),.int .i64 (e:Nat),.bool false]/\∃fs ff,gJ fs e/\Dk.Dsk 0 w d nb fb (.slice none 0 0) (dst fs ff [])
 n1:l≠d
 n2:l≠nb
 n3:l≠fb
def LS (l d nb fb:Nat) (i:Nat):Prop:=i=l\/i=d\/i=nb\/i=fb
def xo (w:World) (F:BS) (l m:Nat):Prop:=∃d nb fb,Qi w l d nb fb m/\F=LS l d nb fb
theorem nC {S:BS} {B:Nat} {w w':World} {d nb fb:Nat} {st:Dk.DS} (h:Dk.Dsk B w d nb fb (.slice none 0 0) st) (ha:st.acts=[]) (k:dY S w w') (h1:¬ S d) (h2:¬ S nb) (h3:¬ S fb) (B':Nat):Dk.Dsk B' w' d nb fb (.slice none 0 0) st:=
 ⟨h.blk.kp k h1,(k.block nb h.now.lt h2).trans h.now,(k.block fb h.firm.lt h3).trans h.firm,h.ne,by rw [ha];exact Dk.Rowed.nil_ _ _⟩
theorem xo.kp {S F:BS} {w w':World} {l m:Nat} (h:xo w F l m) (k:dY S w w') (hn:jV F S):xo w' F l m:=by
 obtain ⟨d,nb,fb,⟨⟨e,he,hb,fs,ff,hf,hd⟩,n1,n2,n3⟩,rfl⟩:=h;exact ⟨d,nb,fb,⟨⟨e,he,hb.kp k (hn l (.inl rfl)),fs,ff,hf,nC hd rfl k (hn d (.inr (.inl rfl))) (hn nb (.inr (.inr (.inl rfl)))) (hn fb (.inr (.inr (.inr rfl)))) 0⟩,n1,n2,n3⟩,rfl⟩
theorem xo.bnd {F:BS} {w:World} {l m:Nat} (h:xo w F l m):P6 F w:=by
 obtain ⟨d,nb,fb,⟨⟨e,he,hb,fs,ff,hf,hd⟩,n1,n2,n3⟩,rfl⟩:=h;rintro i (rfl|rfl|rfl|rfl)
 ·exact hb.lt
 ·exact hd.blk.lt
 ·exact hd.now.lt
 ·exact hd.firm.lt
def Gm (w:World) (l d nb m e lim:Nat) (x:Ending) (w':World):Prop:=
 ∃pU fs' a,x=.returned (.tuple #[.int .i64 ((a:Nat):Int),.int .i64 0])/\a<=lim/\gJ fs' a/\er w w' l d nb pU m e (.slice none 0 0) (dst fs' fs' [])/\w.heap.size<=pU
theorem er.far {w wi:World} {l d nb fb m e:Nat} {v:Value} {st:Dk.DS} (h:er w wi l d nb fb m e v st) {b o:Nat} {u:Value} (hc:w.cell? ⟨b,o,none⟩=some u) (h1:b≠d) (h2:b≠nb):wi.cell? ⟨b,o,none⟩=some u:=
 (aI (a:=⟨b,o,none⟩) (h.kp.block b (dn hc) (by rintro (h3|h3);exact h1 h3;exact h2 h3))).trans hc
theorem Af {w:World} {A:Option Addr} {n c k:Nat} {xs:List (List UInt8)} (h:Strs w A n c xs) (hk:k < xs.length):∃b off,A=some ⟨b,off,none⟩/\w.cell? ⟨b,off+k,none⟩=some (.string (bs xs[k])):=by
 obtain ⟨b,off,e,_,h1,_⟩:=Strs.at_ h hk;exact ⟨b,off,e,h1⟩
theorem Xg (r1:List UInt8) (Dj:r1.length<=1000) (A:Option Addr) (n c:Nat) (w:World) {l d nb fb:Nat} {fs ff:Fm.Files} (h:er w w l d nb fb 0 0 (.slice none 0 0) (dst fs ff [])) (hf:gJ fs 0) (hx:Strs w A n c [r1]) (hA:∀g off,A=some ⟨g,off,none⟩->g≠d/\g≠nb):
  Calls prog 393 #[.pointer (some ⟨l,0,none⟩),.slice A n c] w (Gm w l d nb 0 0 (0+1040)):=by
 have hn:=hx.len;simp at hn;subst hn;have hle:=hx.le;have qJ:=hx.max;obtain ⟨b,off,rfl,s0⟩:=Af hx (k:=0) (by simp);obtain ⟨hbd,WX⟩:=hA b off rfl;simp only [bQ,aJ] at s0;have c1:=h.blk.cell 1;have c2:=h.blk.cell 2;simp at c1 c2;obtain ⟨f1,zX⟩:∃f,f=ny 0 r1:=⟨_,rfl⟩;have ud:f1.length<=1036:=by rw [zX];have:=mj 0 r1;omega
 have Dv:=dH (fun w=>oW 0 (by omega) r1 (by omega) w);rw [<-zX] at Dv;clear zX;have H0:=dH h;have Re:=dH hf;have BF:=dH s0;clear h hf hx hA;go_enter func393,ntmps393;go_wp2_with fail;refine wp_loop_rounds 2 ?_;rw [rounds_succ];go_wp2_with fail;refine (Dv.o _).mono ?_;rintro x v1 ⟨rfl,hb⟩;have K1:=dH (H0.o.later hb);clear hb c1 s0 c2;have KC:=er.cells K1.o;go_wp2_with fail;go_region_held3 (fun w'=>w'.cell? ⟨l,0,none⟩=some (.pointer (some ⟨d,0,none⟩)))
  (with_reducible first|exact er.cells H1.o|exact er.cells M1.o|exact er.cells K1.o|exact er.cells (er.drew K1.o)|exact er.cells (er.drew (er.drew K1.o)))
  (first
   |(go_at_call 308;refine (yh _).mono ?_;rintro x v1n ⟨rfl,hb⟩;have M1:=dH (er.later (er.drew K1.o) hb);clear hb)
   |(go_at_call 412;refine (og (a:=0) M1.o Re.o (by omega) f1 (by omega) (by simp)).mono ?_;rintro x v1w ⟨v1,fs1,rfl,hf,hl⟩;have H1:=dH hl;have uf:dG (gJ fs1 f1.length):=dH (by first|exact hf|(simpa using hf));clear hf hl))
 clear KC;go_wp2_with fail;rw [rounds_succ];have c0:=er.cells H1.o;go_wp2_with fail;refine (wE H1.o).mono ?_;rintro x vz ⟨fb2,rfl,hl,hg⟩;have HZ:=dH hl;have HG:=dH hg;clear hl hg c0;go_wp2_with fail;go_ret2;exact ⟨fb2,_,f1.length,by simp,by omega,uf.o,HZ.o,HG.o⟩
theorem Xh (r1 r2:List UInt8) (Dj:r1.length<=1000) (hr2:r2.length<=1000) (A:Option Addr) (n c:Nat) (w:World) {l d nb fb:Nat} {fs ff:Fm.Files} (h:er w w l d nb fb 0 0 (.slice none 0 0) (dst fs ff [])) (hf:gJ fs 0) (hx:Strs w A n c [r1,r2]) (hA:∀g off,A=some ⟨g,off,none⟩->g≠d/\g≠nb):
  Calls prog 393 #[.pointer (some ⟨l,0,none⟩),.slice A n c] w (Gm w l d nb 0 0 (0+2080)):=by
 have hn:=hx.len;simp at hn;subst hn;have hle:=hx.le;have qJ:=hx.max;obtain ⟨b,off,rfl,s0⟩:=Af hx (k:=0) (by simp);obtain ⟨hbd,WX⟩:=hA b off rfl;obtain ⟨b2,off2,e2,s1⟩:=Af hx (k:=1) (by simp);cases e2;simp only [aL,aJ] at s1;simp only [bQ,aJ] at s0;have c1:=h.blk.cell 1;have c2:=h.blk.cell 2;simp at c1 c2;obtain ⟨f1,zX⟩:∃f,f=ny 0 r1:=⟨_,rfl⟩;have ud:f1.length<=1036:=by rw [zX];have:=mj 0 r1;omega
 have Dv:=dH (fun w=>oW 0 (by omega) r1 (by omega) w);rw [<-zX] at Dv;clear zX;obtain ⟨f2,G6⟩:∃f,f=ny 1 r2:=⟨_,rfl⟩;have tY:f2.length<=1036:=by rw [G6];have:=mj 1 r2;omega
 have ZR:=dH (fun w=>oW 1 (by omega) r2 (by omega) w);rw [<-G6] at ZR;clear G6;have H0:=dH h;have Re:=dH hf;have BF:=dH s0;have tZ:=dH s1;clear h hf hx hA;go_enter func393,ntmps393;go_wp2_with fail;refine wp_loop_rounds 3 ?_;rw [rounds_succ];go_wp2_with fail;refine (Dv.o _).mono ?_;rintro x v1 ⟨rfl,hb⟩;have K1:=dH (H0.o.later hb);clear hb c1 s0 c2;have KC:=er.cells K1.o;go_wp2_with fail;go_region_held3 (fun w'=>w'.cell? ⟨l,0,none⟩=some (.pointer (some ⟨d,0,none⟩)))
  (with_reducible first|exact er.cells H1.o|exact er.cells M1.o|exact er.cells K1.o|exact er.cells (er.drew K1.o)|exact er.cells (er.drew (er.drew K1.o)))
  (first
   |(go_at_call 308;refine (yh _).mono ?_;rintro x v1n ⟨rfl,hb⟩;have M1:=dH (er.later (er.drew K1.o) hb);clear hb)
   |(go_at_call 412;refine (og (a:=0) M1.o Re.o (by omega) f1 (by omega) (by simp)).mono ?_;rintro x v1w ⟨v1,fs1,rfl,hf,hl⟩;have H1:=dH hl;have uf:dG (gJ fs1 f1.length):=dH (by first|exact hf|(simpa using hf));clear hf hl))
 clear KC;go_wp2_with fail;rw [rounds_succ];have c1:=H1.o.blk.cell 1;simp at c1;have s1:=er.far H1.o tZ.o hbd WX;go_wp2_with fail;refine (ZR.o _).mono ?_;rintro x v2 ⟨rfl,hb⟩;have K2:=dH (H1.o.later hb);clear hb c1 s1;have KC:=er.cells K2.o;go_wp2_with fail;go_region_held3 (fun w'=>w'.cell? ⟨l,0,none⟩=some (.pointer (some ⟨d,0,none⟩)))
  (with_reducible first|exact er.cells H2.o|exact er.cells M2.o|exact er.cells K2.o|exact er.cells (er.drew K2.o)|exact er.cells (er.drew (er.drew K2.o)))
  (first
   |(go_at_call 308;refine (yh _).mono ?_;rintro x v2n ⟨rfl,hb⟩;have M2:=dH (er.later (er.drew K2.o) hb);clear hb)
   |(go_at_call 412;refine (og (a:=f1.length) M2.o uf.o (by omega) f2 (by omega) (by simp)).mono ?_;rintro x v2w ⟨v2,fs2,rfl,hf,hl⟩;have H2:=dH hl;have X4:dG (gJ fs2 (f1.length+f2.length)):=dH (by first|exact hf|(simpa using hf));clear hf hl))
 clear KC;go_wp2_with fail;rw [rounds_succ];have c0:=er.cells H2.o;go_wp2_with fail;refine (wE H2.o).mono ?_;rintro x vz ⟨fb2,rfl,hl,hg⟩;have HZ:=dH hl;have HG:=dH hg;clear hl hg c0;go_wp2_with fail;go_ret2;exact ⟨fb2,_,(f1.length+f2.length),by simp,by omega,X4.o,HZ.o,HG.o⟩
theorem Xi (e:Nat) (he:e<=4000) (r1:List UInt8) (Dj:r1.length<=1000) (A:Option Addr) (n c:Nat) (w:World) {l d nb fb:Nat} {fs ff:Fm.Files} (h:er w w l d nb fb 1 e (.slice none 0 0) (dst fs ff [])) (hf:gJ fs e) (hx:Strs w A n c [r1]) (hA:∀g off,A=some ⟨g,off,none⟩->g≠d/\g≠nb):
  Calls prog 393 #[.pointer (some ⟨l,0,none⟩),.slice A n c] w (Gm w l d nb 1 e (e+1040)):=by
 have hn:=hx.len;simp at hn;subst hn;have hle:=hx.le;have qJ:=hx.max;obtain ⟨b,off,rfl,s0⟩:=Af hx (k:=0) (by simp);obtain ⟨hbd,WX⟩:=hA b off rfl;simp only [bQ,aJ] at s0;have c1:=h.blk.cell 1;have c2:=h.blk.cell 2;simp at c1 c2;obtain ⟨f1,zX⟩:∃f,f=ny 1 r1:=⟨_,rfl⟩;have ud:f1.length<=1036:=by rw [zX];have:=mj 1 r1;omega
 have Dv:=dH (fun w=>oW 1 (by omega) r1 (by omega) w);rw [<-zX] at Dv;clear zX;have H0:=dH h;have Re:=dH hf;have BF:=dH s0;clear h hf hx hA;go_enter func393,ntmps393;go_wp2_with fail;refine wp_loop_rounds 2 ?_;rw [rounds_succ];go_wp2_with fail;refine (Dv.o _).mono ?_;rintro x v1 ⟨rfl,hb⟩;have K1:=dH (H0.o.later hb);clear hb c1 s0 c2;have KC:=er.cells K1.o;go_wp2_with fail;go_region_held3 (fun w'=>w'.cell? ⟨l,0,none⟩=some (.pointer (some ⟨d,0,none⟩)))
  (with_reducible first|exact er.cells H1.o|exact er.cells M1.o|exact er.cells K1.o|exact er.cells (er.drew K1.o)|exact er.cells (er.drew (er.drew K1.o)))
  (first
   |(go_at_call 308;refine (yh _).mono ?_;rintro x v1n ⟨rfl,hb⟩;have M1:=dH (er.later (er.drew K1.o) hb);clear hb)
   |(go_at_call 412;refine (og (a:=e) M1.o Re.o (by omega) f1 (by omega) (by simp)).mono ?_;rintro x v1w ⟨v1,fs1,rfl,hf,hl⟩;have H1:=dH hl;have uf:dG (gJ fs1 (e+f1.length)):=dH (by first|exact hf|(simpa using hf));clear hf hl))
 clear KC;go_wp2_with fail;rw [rounds_succ];have c0:=er.cells H1.o;go_wp2_with fail;refine (wE H1.o).mono ?_;rintro x vz ⟨fb2,rfl,hl,hg⟩;have HZ:=dH hl;have HG:=dH hg;clear hl hg c0;go_wp2_with fail;go_ret2;exact ⟨fb2,_,(e+f1.length),by simp,by omega,uf.o,HZ.o,HG.o⟩
def recB (s:List UInt8):Bool:=decide (s≠[]) && decide (s.length<=2000)
theorem FN (s:List UInt8) (w:World):Calls prog 390 #[.string (bs s)] w fun e w'=>e=.returned (.bool (recB s))/\w=w':=by
 by_cases h:s=[]
 ·subst h
  go_enter func390,ntmps390;go_wp2_with fail;go_ret;exact ⟨rfl,rfl⟩
 ·have c0:(s ==[])=false:=by rw [beq_eq_false_iff_ne];exact h
  have hr:recB s=decide (s.length<=2000):=by unfold recB;simp [h]
  have c1:decide ((s.length:Int)<=2000)=decide (s.length<=2000):=by
   rw [decide_eq_decide];omega
  rw [hr];have HC:=dH c1;clear hr c1;go_enter func390,ntmps390;go_wp2_with fail;go_ret;exact ⟨by first|rfl|(rw [<-HC.o];rfl),rfl⟩
theorem Tp (s:List UInt8) (w:World):Calls prog 392 #[.string (bs s)] w (dJ w (.bool (!recB s))):=by
 have H:=dH (FN s);obtain ⟨b,hb⟩:=dB (recB s);rw [<-hb] at H ⊢;clear hb;have hnot:∀(x:Bool) (w:World),(Op.unary .not (.bool x)).run prog w=.ok (.bool (!x)) w:=fun _ _=>rfl
 go_enter func392,ntmps392;go_wp2_with fail;refine (H.o _).mono ?_;rintro e w1 ⟨rfl,rfl⟩;go_wp2_with fail;go_ret;exact ⟨rfl,aC _ _⟩
theorem JX (args:Array Value) (w:World):(callFunc 392 args).run prog w=.ok (.enter 392 args) w:=enters_of func392 (by kernel_rfl) rfl args w
theorem FO {w:World} {F:BS} {l m:Nat} (h:xo w F l m) (A:Option Addr) (n c:Nat) (xs:List (List UInt8)) (hx:Strs w A n c xs) (hr:∀r∈xs,1<=r.length/\r.length<=1000) (hA:∀g off,A=some ⟨g,off,none⟩->¬ F g) (hn:1<=n) (hk:m=0/\n=1\/m=0/\n=2\/m=1/\n=1):
  Calls prog 360 #[.pointer (some ⟨l,0,none⟩),.slice A n c] w fun e w'=>∃F',e=.returned (.int .i64 0)/\xo w' F' l (m+n)/\gT F F' w w':=by
 obtain ⟨d,nb,fb,⟨⟨e0,he,hb,fs,ff,hf,hd⟩,n1,n2,n3⟩,rfl⟩:=h;have ZS:xs.any (fun s=>!recB s)=false:=by
  rw [List.any_eq_false];intro s hs;have:=hr s hs;unfold recB;have h1:s≠[]:=by intro e;rw [e] at this;simp at this
  simp [h1];omega
 have HC:=dH (pN 392 (fun s=>!recB s) JX A n c xs w hx (fun x wr _=>Tp x wr));rw [ZS] at HC;have hlen:=hx.len;have hle:=hx.le;have qJ:=hx.max;have ZT:∀w1,Below w.heap.size w w1->Calls prog 393 #[.pointer (some ⟨l,0,none⟩),.slice A n c] w1 (Gm w1 l d nb m e0 (e0+1040*n)):=by
  intro w1 dR;have hI:er w1 w1 l d nb fb m e0 (.slice none 0 0) (dst fs ff []):=⟨hb.below dR hb.lt,nC hd rfl (eR (S:=fun _=>False) dR) id id id _,eX _ _,n1,n2,aN hb.lt dR.size⟩;have hx1:=hx.below dR;have PK:∀g off,A=some ⟨g,off,none⟩->g≠d/\g≠nb:=fun g off e=> ⟨fun e2=>hA g off e (.inr (.inl e2)),fun e2=>hA g off e (.inr (.inr (.inl e2)))⟩
  rcases hk with ⟨rfl,rfl⟩| ⟨rfl,rfl⟩| ⟨rfl,rfl⟩
  ·obtain rfl:e0=0:=by omega
   obtain ⟨r1,rfl⟩:∃r1,xs=[r1]:=List.length_eq_one_iff.1 hlen;exact Xg r1 (hr r1 (by simp)).2 A 1 c w1 hI hf hx1 PK
  ·obtain rfl:e0=0:=by omega
   obtain ⟨r1,r2,rfl⟩:∃r1 r2,xs=[r1,r2]:=by match xs,hlen with| [a,b],_=>exact ⟨a,b,rfl⟩
   exact Xh r1 r2 (hr r1 (by simp)).2 (hr r2 (by simp)).2 A 2 c w1 hI hf hx1 PK
  ·obtain ⟨r1,rfl⟩:∃r1,xs=[r1]:=List.length_eq_one_iff.1 hlen
   exact Xi e0 (by omega) r1 (hr r1 (by simp)).2 A 1 c w1 hI hf hx1 PK
 have c3:=hb.cell 3;simp at c3;have Sv:decide ((m:Int)+(n:Int) > 800)=false:=by simp;omega
 have adg:decide ((m:Int)+(n:Int)<=800)=true:=by simp;omega
 have hn0:((n:Int) ==0)=false:=by simp;omega
 have hwr:wrap64 ((m:Int)+(n:Int))=(m:Int)+(n:Int):=by unfold wrap64;omega
 have HL:=dH ZT;have HB:=dH hb;have HN:=dH (And.intro n1 (And.intro n2 n3));have HE:=dH he;have HK:dG (m<=1/\n<=2):=dH (by omega);have xN:m<=1:=by omega
 have hn2:n<=2:=by omega
 have HD:=dH hd;clear ZT hb he hk hd hx hA ZS hr hlen hf n1 n2 n3;go_enter func360,ntmps360;go_wp2_with fail;refine HC.o.mono ?_;rintro x w1 ⟨rfl,dR⟩;have ZU:=HB.o.below dR HB.o.lt;have c1:=ZU.cell 1;simp at c1;have eH:=dH dR;clear dR ZU c3;go_wp2_with fail;refine (HL.o w1 eH.o).mono ?_;rintro x w2 ⟨pU,fs',a,rfl,ha,hf,hI,hg⟩;have c1:=hI.blk.cell 1;have c2:=hI.blk.cell 2;have z1:=hI.blk.frozen 1;have z2:=hI.blk.frozen 2;simp at c1 c2;have uF:=(hI.blk.set_ 1 (.int .i64 ((m:Int)+(n:Int)))).set_ 2 (.int .i64 ((a:Nat):Int));have hg3:w2.grownBy ((w2.setCell ⟨l,1,none⟩ (.int .i64 ((m:Int)+(n:Int)))).setCell ⟨l,2,none⟩ (.int .i64 ((a:Nat):Int))) (some l):=dh (dh (dx w2 _) (p:=⟨l,1,none⟩) (.inl rfl) _) (p:=⟨l,2,none⟩) (.inl rfl) _;have hnl:l≠pU:=by have:=hI.hl;omega
 have KG:Dk.Dsk 0 ((w2.setCell ⟨l,1,none⟩ (.int .i64 ((m:Int)+(n:Int)))).setCell ⟨l,2,none⟩ (.int .i64 ((a:Nat):Int))) d nb pU (.slice none 0 0) (dst fs' fs' []):=
  nC hI.dsk rfl (ep (S:=fun i=>i=l) hg3 (fun i e=>by cases e;rfl)) (fun e=>hI.n1 e.symm) (fun e=>hI.n2 e.symm) (fun e=>hnl e.symm) 0
 have HLF:dG (xo ((w2.setCell ⟨l,1,none⟩ (.int .i64 ((m:Int)+(n:Int)))).setCell ⟨l,2,none⟩ (.int .i64 ((a:Nat):Int))) (LS l d nb pU) l (m+n)):=dH
  ⟨d,nb,pU,⟨⟨a,by have:=HE.o;omega,by rw [Int.natCast_add];simpa using uF,fs',fs',hf,KG⟩,hI.n1,hI.n2,hnl⟩,rfl⟩
 have qL:dG (gT (LS l d nb fb) (LS l d nb pU) w ((w2.setCell ⟨l,1,none⟩ (.int .i64 ((m:Int)+(n:Int)))).setCell ⟨l,2,none⟩ (.int .i64 ((a:Nat):Int)))):=dH
  ⟨eB (eB (eR (S:=LS l d nb fb) eH.o) hI.kp (fun i _ h=>by rcases h with h|h;exact .inr (.inl h);exact .inr (.inr (.inl h)))) (ep (S:=LS l d nb fb) hg3 (fun i e=>by cases e;exact .inl rfl)) (fun _ _ h=>h),
   fun i hi=>by
   rcases hi with h|h|h|h
   ·exact .inl (.inl h)
   ·exact .inl (.inr (.inl h))
   ·exact .inl (.inr (.inr (.inl h)))
   ·exact .inr (by have:=eH.o.size;omega)⟩
 clear uF hg3 KG hI hf hg ha hnl;go_wp2_with fail;go_ret;exact ⟨_,rfl,HLF.o,qL.o⟩
end
end Go.Proofs.YtgdaahffmcfhpaaGreatDoor
