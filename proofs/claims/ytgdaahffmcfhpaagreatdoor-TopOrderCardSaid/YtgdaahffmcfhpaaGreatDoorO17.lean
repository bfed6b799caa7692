/- Lemmas on the way: Kq Aa Ab KDk ZA. -/
import Derived.Lib.OwnKind
import Derived.Test.YtgdaahffmcfhpaaGreatDoorO15
import Derived.Test.YtgdaahffmcfhpaaGreatDoorO16
set_option linter.unusedVariables false
set_option maxRecDepth 100000
set_option maxHeartbeats 8000000
namespace Go.Proofs.YtgdaahffmcfhpaaGreatDoor
open aA
open Tryz
section
open Go.RowKit
structure dm (S:Nat->Prop) (w w':World):Prop where
 os:w'.os=w.os
 tape:w'.tape=w.tape
 output:w'.output=w.output
 size:w.heap.size<=w'.heap.size
 block:∀i,i < w.heap.size->¬ S i->w'.heap[i]? =w.heap[i]?
section
variable {S S':Nat->Prop} {w w1 w2:World}
theorem eT (S:Nat->Prop) (w:World):dm S w w:=⟨rfl,rfl,rfl,aB _,λ_ _ _=>rfl⟩
theorem eF (h:dm S w w1) (k:dm S' w1 w2) (hs:∀i,i < w.heap.size->S' i->S i):dm S w w2:=
 ⟨k.os.trans h.os,k.tape.trans h.tape,k.output.trans h.output,aI h.size k.size,λi hi hn=>(k.block i (aN hi h.size) (λh=>hn (hs i hi h))).trans (h.block i hi hn)⟩
theorem nP (h:dm S' w w1) (hs:∀i,i < w.heap.size->S' i->S i):dm S w w1:=⟨h.os,h.tape,h.output,h.size,λi hi hn=>h.block i hi (λh=>hn (hs i hi h))⟩
theorem eO (h:Below w w w1):dm S w w1:=⟨h.os,h.tape,h.output,h.size,λi hi _=>h.block i hi⟩
theorem gj (h:dm S w w1) (k:Below w1 w1 w2):dm S w w2:=eF h (eO (S:=S) k) (λ_ _ h=>h)
theorem ek {r:Option Nat} (h:w.grownBy w1 r) (hs:∀i,r=some i->S i):dm S w w1:=
 ⟨h.os,h.tape,h.output,h.size,λi hi hn=>h.block i hi (λe=>hn (hs i e.symm))⟩
theorem rj (h:dm S w w1) (o:Obj):dm S w (w1.alloc o):=gj h ((aC _ w1).alloc (aB _) o)
theorem dw (h:dm S w w1) (p:Addr) (v:Value) (hp:p.block < w.heap.size->S p.block):dm S w (w1.setCell p v):=
 ⟨h.os,h.tape,h.output,by simpa [World.setCell] using h.size,λi hi hn=>(bU w1 p v i (by rintro rfl;exact hn (hp hi))).trans (h.block i hi hn)⟩
theorem eL {B:Nat} {w0:World} (hb:Below B w0 w) (h:dm S w w1) (hs:∀i,S i->B<=i) (hB:B<=w.heap.size):Below B w0 w1:=
 hb.trans ⟨h.os,h.tape,h.output,h.size,λk hk=>h.block k (by omega) (λhS=>by have:=hs k hS;omega)⟩
theorem Blk.kp {g:Nat} {t:TypeId} {cs:Array Value} (h:Blk w g t cs) (k:dm S w w1) (hn:¬ S g):Blk w1 g t cs:=(k.block g h.lt hn).trans h
theorem Sl.kp {α:Type} {size n c:Nat} {R:List Value->α->Prop} {A:Option Addr} {xs:List α} (h:Sl w size R A n c xs) (k:dm S w w1) (hn:∀g off,A=some ⟨g,off,none⟩->¬ S g):Sl w1 size R A n c xs:=
 ⟨h.1,h.2,h.3,λi hi=>by
  obtain ⟨b,off,cs,e,hlt,hl,hR,hc⟩:=h.4 i hi;exact ⟨b,off,cs,e,aN hlt k.size,hl,hR,λj u hu=>(aM (a:=⟨b,off+i*size+j,none⟩) (k.block b hlt (hn b off e))).trans (hc j u hu)⟩⟩
theorem dQ.kp {B size n:Nat} {v:Value} {xs:List Value} (h:dQ w B size v n xs) (k:dm S w w1) (hn:∀g,v.ownBlock=some g->¬ S g):dQ w1 B size v n xs:=by
 refine ⟨h.1,?_⟩;rcases h.2 with h0| ⟨g,cap,rfl,hb,hlt,hnc,hcm,hs,hf,hx⟩
 ·exact .inl h0
 ·have hblk:w1.heap[g]? =w.heap[g]?:=k.block g hlt (hn g rfl)
  have hc:∀j,w1.cell? ⟨g,j,none⟩=w.cell? ⟨g,j,none⟩:=λj=>aM (a:=⟨g,j,none⟩) hblk
  have hz:∀j,w1.frozen? ⟨g,j,none⟩=w.frozen? ⟨g,j,none⟩:=λj=>World.frozen?_of_block (a:=⟨g,j,none⟩) hblk
  exact .inr ⟨g,cap,rfl,hb,aN hlt k.size,hnc,hcm,λj hj=>by rw [hc];exact hs j hj,λj hj=>by rw [hz];exact hf j hj,λj u hu=>by rw [hc];exact hx j u hu⟩
end
abbrev BS:=Nat->Prop
def iS (F G:BS):Prop:=∀i,F i->¬ G i
def G6 (F:BS) (w:World):Prop:=∀i,F i->i < w.heap.size
def Na (F F':BS) (w:World):Prop:=∀i,F' i->F i\/w.heap.size<=i
theorem Na.refl (F:BS) (w:World):Na F F w:=λ_ h=>.inl h
variable {F F' G:BS} {w w':World}
theorem Na.trans{F2:BS} (h:Na F F' w) (k:Na F' F2 w') (hs:w.heap.size<=w'.heap.size):Na F F2 w:=λi hi=>by
 rcases k i hi with h1|h1
 ·exact h i h1
 ·exact .inr (by omega)
theorem iS.symm (h:iS F G):iS G F:=λi hg hf=>h i hf hg
theorem iS.gro (h:iS F G) (k:Na F F' w) (hb:G6 G w):iS F' G:=λi hi hg=>by
 rcases k i hi with h1|h1
 ·exact h i h1 hg
 ·have:=hb i hg;omega
theorem G6.size (h:G6 F w) (hs:w.heap.size<=w'.heap.size):G6 F w':=λi hi=>aN (h i hi) hs
theorem iS.fresh (hF:∀i,F i->w.heap.size<=i) (hb:G6 G w):iS F G:=λi hi hg=>by
 have:=hF i hi;have:=hb i hg;omega
theorem iS.sub {F F' G G':BS} (h:iS F G) (hF:∀i,F' i->F i) (hG:∀i,G' i->G i):iS F' G':=λi hi hg=>h i (hF i hi) (hG i hg)
structure iP (F F':BS) (w w':World):Prop where
 keeps:dm F w w'
 gro:Na F F' w
theorem iP.below (F:BS) (h:Below w w w'):iP F F w w':=⟨eO h,Na.refl _ _⟩
theorem iP.trans {F F' F2:BS} {w w' w2:World} (h:iP F F' w w') (k:iP F' F2 w' w2):iP F F2 w w2:=
 ⟨eF h.keeps k.keeps (λi hi h1=>by
  rcases h.gro i h1 with h2|h2
  ·exact h2
  ·omega),h.gro.trans k.gro h.keeps.size⟩
theorem iP.then_ {w2:World} (h:iP F F' w w') (k:Below w' w' w2):iP F F' w w2:=h.trans (iP.below _ k)
theorem iP.size {F F':BS} {w w':World} (h:iP F F' w w'):w.heap.size<=w'.heap.size:=h.keeps.size
end
section
open Go.RowKit
attribute [local go_sem] dR dO dS dP
def qm:List UInt8:=[115,101,103,45,48]
theorem Zv (w:World):Calls prog 232 #[qn] w (dM w (.string (bs [48]))):=by
 refine (strconv_Itoa_small 0 (by decide) w).mono ?_;rintro e w' ⟨rfl,rfl⟩;exact ⟨by first|rfl|kernel_rfl,aC _ _⟩
theorem AK (w:World):Calls prog 308 #[qn] w (dM w (.string (bs qm))):=by
 have HI:=dL (Zv w);go_enter func308,ntmps308;go_wp2_with fail;refine HI.o.mono ?_;rintro e w1 ⟨rfl,hb⟩;have HB:=dL hb;clear hb;go_wp2_with fail;go_ret;exact ⟨rfl,HB.o⟩
def AL (n:Int) (s:List UInt8):List UInt8:=Pt.Cd.numL n++Pt.Cd.textL s
def om (n:Int) (s:List UInt8):List UInt8:=Pt.Cd.numL ((Cr.sumL (AL n s):Nat):Int)++Pt.Cd.textL (AL n s)
theorem eN (n:Int):(Pt.Cd.numL n).length<=9:=Pt.Cd.numU_len _
theorem gC (s:List UInt8):(Pt.Cd.textL s).length<=9+s.length:=by
 unfold Pt.Cd.textL;have:=eN (s.length:Int);simp;omega
theorem nQ (n:Int) (s:List UInt8):(om n s).length<=36+s.length:=by
 unfold om AL;have h1:=eN ((Cr.sumL (Pt.Cd.numL n++Pt.Cd.textL s):Nat):Int);have h2:=gC (Pt.Cd.numL n++Pt.Cd.textL s);have h3:=eN n;have h4:=gC s;simp only [aP] at*;omega
theorem pS (n:Int) (hn:-9223372036854775808<=n/\n<=9223372036854775807) (s:List UInt8) (hs:s.length<=100000) (w:World):
  Calls prog 411 #[n,s] w (dM w (.string (bs (om n s)))):=by
 have h1:=eN n;have h2:=gC s;have hlt:Cr.sumL (AL n s) < 4294967296:=Cr.moreL_lt 0 _;obtain ⟨B,hB⟩:=dG (AL n s);have kE:B.length<=200000:=by rw [hB];unfold AL;simp only [aP];omega
 have hF:om n s=Pt.Cd.numL ((Cr.sumL B:Nat):Int)++Pt.Cd.textL B:=by rw [hB];rfl
 have hN:=eN ((Cr.sumL B:Nat):Int);have hT:=gC B;rw [<-hB] at hlt;have HB:=dL hB;have HF:=dL hF;obtain ⟨X,hX⟩:∃X:Int,X=((Cr.sumL B:Nat):Int):=⟨_,rfl⟩;have hXb:-9223372036854775808<=X/\X<=9223372036854775807:=by omega
 have HS:=dL (λw:World=>Cr.sum_c B (by omega) w);rw [<-hX] at hN;have HX:=dL hX;clear hB hF hX hlt;go_enter func411,ntmps411;go_wp2_with fail;refine (Pt.Cd.num_c n _ hn).mono ?_;rintro e w1 ⟨rfl,dV⟩;have eR:=dL dV;clear dV;go_wp2_with fail;refine (Pt.Cd.text_c s _ (by omega)).mono ?_;rintro e w2 ⟨rfl,dY⟩;have eA:=dJ eR dY;have e1:Pt.Cd.numL n++Pt.Cd.textL s=B:=by rw [HB.o];rfl
 clear dY;go_wp2_with fail;refine (HS.o _).mono ?_;rintro e w3 ⟨rfl,dn⟩;rw [<-HX.o];have eC:=dJ eA dn;clear dn e1;go_wp2_with fail;refine (Pt.Cd.num_c X _ hXb).mono ?_;rintro e w4 ⟨rfl,hb4⟩;have fI:=dJ eC hb4;clear hb4;go_wp2_with fail;refine (Pt.Cd.text_c B _ (by omega)).mono ?_;rintro e w5 ⟨rfl,ef⟩;have fk:=dJ fI ef;clear ef;go_wp2_with fail;go_ret;exact ⟨by rw [HF.o,<-HX.o];rfl,fk.o⟩
theorem xF (s:List UInt8) (h1:1<=s.length) (h2:s.length<=256) (w:World):Calls prog 312 #[s] w λe w'=>e=.returned true/\w=w':=by
 have c0:(s ==[])=false:=by
  rw [beq_eq_false_iff_ne];exact λe=>by rw [e] at h1;simp at h1
 have c1:decide ((s.length:Int)<=256)=true:=by simp;omega
 go_enter func312,ntmps312;go_wp2_with fail;go_ret;exact ⟨by simp,rfl⟩
theorem S9 (w:World):(Instr.makeMap 195 none).run prog w=.ok (.map (some w.heap.size)) (w.alloc (.map #[] 0)):=by simp [go_sem,Instr.makeMap]
theorem AM (w:World):Calls prog 67 #[] w λe w'=>∃p,e=.returned (.pointer (some ⟨p,0,none⟩))/\Below w w w':=by
 have hm:=S9 w;go_enter func67,ntmps67;go_wp2_with fail;go_ret;exact ⟨_,rfl,((aC _ w).alloc (aB _) _).alloc (by simp) _⟩
theorem Zw (w:World):Calls prog 250 #[qn,()] w (dM w (.tuple #[.agg #[yh,qn],qn])):=by
 go_enter func250,ntmps250;go_wp2_with fail;refine wp_loop_rounds 1 ?_;rw [rounds_succ];go_wp2_with fail;exact bodyPost_ret (v:=.tuple #[.agg #[yh,qn],qn]) (by simp [results,results250,go_sem]) rfl ⟨rfl,(aC _ w).alloc (aB _) _⟩
end
section
open Go.RowKit
attribute [local go_sem] dR dO dS dP
def vB (w:World) (g:Nat) (r:List UInt8):Prop:=∃d a,Pt.Cd.Rd w g d a 0/\a<=d.length/\d.length<=1000000/\d.drop a=r
section
variable {w w':World} {g:Nat} {r:List UInt8}
theorem vB.lt (h:vB w g r):g < w.heap.size:=by
 obtain ⟨d,a,h,_⟩:=h;exact Blk.lt h
theorem vB.below (h:vB w g r) (hb:Below w w w'):vB w' g r:=by
 obtain ⟨d,a,h,h2⟩:=h;exact ⟨d,a,Blk.below h hb (Blk.lt h),h2⟩
theorem vB.far {q:Nat} (h:vB w g r) (hb:w.grownBy w' (some q)) (hne:g≠q):vB w' g r:=by
 obtain ⟨d,a,h,h2⟩:=h;exact ⟨d,a,Blk.grown h hb (by intro e;cases e;exact hne rfl),h2⟩
theorem Nb (d:List UInt8) (hd:d.length<=1000000) (w:World):
  Calls prog 214 #[d] w λe w'=>e=.returned (Qp w)/\vB w' w d/\Below w w w':=
 (Pt.Cd.Read_any d w).mono λe w' ⟨h1,h2,h3⟩=> ⟨h1,⟨d,0,h2,aS _,hd,rfl⟩,h3⟩
theorem AN {d p r:List UInt8} {a:Nat} (ha:a<=d.length) (h:d.drop a=p++r):a+p.length<=d.length/\d.drop (a+p.length)=r:=by
 have hl:=congrArg List.length h;rw [ah,aP] at hl;refine ⟨by omega,?_⟩;rw [<-List.drop_drop,h,List.drop_left]
theorem mh (n:Int) (hn:-9223372036854775808<=n/\n<=9223372036854775807) (h:vB w g (Pt.Cd.numL n++r)):
  Calls prog 215 #[Qp g] w λe w'=>e=.returned n/\vB w' g r/\w.grownBy w' (some g):=by
 obtain ⟨d,a,hR,ha,hd,hr⟩:=h;obtain ⟨h1,h2⟩:=AN ha hr;have hs:Pt.Cd.numS d a 0=(a+(Pt.Cd.numL n).length,0,Pt.Cd.u64 n):=by
  unfold Pt.Cd.numS;rw [if_pos rfl];exact Pt.Cd.num_app (Pt.Cd.u64_lt n) hr
 refine (Pt.Cd.Num_any g d a 0 w hR ha (by omega)).mono ?_;rintro e w' ⟨rfl,YV,hg⟩;rw [hs] at YV ⊢;exact ⟨by rw [Pt.Cd.toI_u64 hn],⟨d,_,YV,h1,hd,h2⟩,hg⟩
theorem Ba (t:List UInt8) (h:vB w g (Pt.Cd.textL t++r)) (ht:t.length<=1000000):
  Calls prog 329 #[Qp g] w λe w'=>e=.returned t/\vB w' g r/\w.grownBy w' (some g):=by
 obtain ⟨d,a,hR,ha,hd,hr⟩:=h;obtain ⟨h1,h2⟩:=AN ha hr;have hs:Pt.Cd.textS d a 0=(a+(Pt.Cd.textL t).length,0,t):=Pt.Cd.text_app (by omega) hr;refine (Pt.Cd.Text_any g d a 0 w hR ha (by omega)).mono ?_;rintro e w' ⟨rfl,YV,hg⟩;rw [hs] at YV ⊢;exact ⟨rfl,⟨d,_,YV,h1,hd,h2⟩,hg⟩
theorem oH (h:vB w g r):Calls prog 216 #[Qp g] w λe w'=>e=.returned qn/\w=w':=by
 obtain ⟨d,a,hR,_⟩:=h;exact Pt.Cd.Err_any g d a 0 w hR
theorem Nc (h:vB w g []):Calls prog 332 #[Qp g] w (dM w (.int .i64 0)):=by
 obtain ⟨d,a,hR,ha,hd,hr⟩:=h;have hl:=congrArg List.length hr;rw [ah] at hl;refine (Pt.Cd.End_any g d a 0 w hR ha (by omega)).mono ?_;rintro e w' ⟨rfl,hb⟩;refine ⟨?_,hb⟩;unfold Pt.Cd.endS;rw [if_pos rfl,if_neg (by simp at hl;omega)]
end
def oo (s:St):List UInt8:=Pt.Cd.numL s.1++Pt.Cd.numL s.2
theorem Bb {g:Nat} {r:List UInt8} {w:World} (s:St) (h1:oS s.1) (h2:oS s.2) (h:vB w g (oo s++r)):
  Calls prog 357 #[Qp g] w λe w'=>e=.returned (sv s)/\vB w' g r/\w.grownBy w' (some g):=by
 obtain ⟨w0,hw0⟩:=dG (w.alloc (.cells #[qn,qn] 30));have hb0:Below w w w0:=by rw [hw0];exact (aC _ w).alloc (aB _) _
 have yS:Blk w0 w 30 #[qn,qn]:=by rw [hw0];exact Blk.new _ _ _
 have qY:=h.lt;have hR0:=h.below hb0;unfold oo at hR0;rw [bx] at hR0;have HW:=dL hw0;have yM:=dL yS;have HR0:=dL hR0;have Hb0:=dL hb0;clear hw0 yS hR0 hb0 h;unfold sv;go_enter func357,ntmps357;go_wp2_with fail;rw [<-HW.o];refine (mh s.1 h1 HR0.o).mono ?_;rintro e w1 ⟨rfl,oB,hg1⟩;have CV:=dL oB;have tq:=dL hg1;clear oB hg1;go_wp2_with fail;refine (mh s.2 h2 CV.o).mono ?_;rintro e w2 ⟨rfl,um,hg2⟩;have hG2:=fJ tq.o hg2;have fD:Blk w2 w 30 #[qn,qn]:=yM.o.grown hG2 (by intro e;cases e;omega);have f0:=fD.frozen 0;have f1:=fD.frozen 1;have c0:=fD.cell 0;have c1:=fD.cell 1;simp at c0 c1;have vO:=(fD.set_ 0 (.int .i64 s.1)).set_ 1 (.int .i64 s.2);have d0:=vO.cell 0;have d1:=vO.cell 1;simp at d0 d1;have hg3:w2.grownBy ((w2.setCell w s.1).setCell (Qc w 1) s.2) (some w.heap.size):=dh (dh (dz w2 _) (p:=w) (.inl rfl) _) (p:=Qc w 1) (.inl rfl) _;have XQ:=dL (um.far hg3 (by omega));have Tg:w.grownBy w2 (some g):=fJ (fC Hb0.o _) hG2;have Cq:dK (w.grownBy ((w2.setCell w s.1).setCell (Qc w 1) s.2) (some g)):=dL (dh (dh Tg (p:=w) (.inr (aB _)) _) (p:=Qc w 1) (.inr (aB _)) _);clear hG2 fD vO hg3 Tg um hg2;go_wp2_with fail;exact bodyPost_ret (v:=.agg #[s.1,s.2]) (by simp [results,results357,go_sem,d0,d1]) rfl ⟨rfl,XQ.o,Cq.o⟩
end
namespace Dk
open Go.RowKit Fm
def zeros (n:Nat):List UInt8:=List.replicate n 0
structure Wr where
 name:Bytes
 at_:Nat
 data:Bytes
def laidL (s:Bytes) (k:Nat) (data:Bytes):Bytes:=
 let s':=s++zeros (k - s.length)
 s'.take k++data++s'.drop (min s'.length (k+data.length))
def half (Yx:Bool) (l:Bytes):Bytes:=if Yx then l.take (l.length / 2) else l
def doneL (fs:Files) (a:Wr) (Yx:Bool):Files:=put fs a.name (laidL ((Fm.get fs a.name).getD []) a.at_ (half Yx a.data))
structure DS where
 limit:Nat
 now:Files
 firm:Files
 acts:List Wr
 armed:Int
 dead:Bool
def rm (w:World) (u:Value) (a:Wr):Prop:=
 ∃p q r,u=.func (.func 420) #[] #[.pointer (some ⟨p,0,none⟩),.pointer (some ⟨q,0,none⟩),.pointer (some ⟨r,0,none⟩)]/\Blk w p 9 #[a.data]/\Blk w q 9 #[a.name]/\Blk w r 3 #[.int .i64 (a.at_:Nat)]
def oN (w:World):List Value->List Wr->Prop
 | [],[]=>True
 |u :: us,a :: r=>rm w u a/\oN w us r
 |_,_=>False
def iV (w:World) (g:Nat):Prop:=∀t cs,Blk w g t cs->t≠9/\t≠3
section
variable {w w':World}
theorem rm.grown {u:Value} {a:Wr} {row:Option Nat} (h:rm w u a) (hg:w.grownBy w' row) (hn:∀g,row=some g->iV w g):rm w' u a:=by
 obtain ⟨p,q,r,e,hp,hq,hr⟩:=h;have ne:∀{i t cs},Blk w i t cs->t=9\/t=3->some i≠row:=by
  intro i t cs hb ht e;have:=hn i e.symm t cs hb;rcases ht with ht|ht
  ·exact this.1 ht
  ·exact this.2 ht
 exact ⟨p,q,r,e,hp.grown hg (ne hp (.inl rfl)),hq.grown hg (ne hq (.inl rfl)),hr.grown hg (ne hr (.inr rfl))⟩
theorem oN.grown {row:Option Nat} (hg:w.grownBy w' row) (hn:∀g,row=some g->iV w g):∀{us:List Value} {al:List Wr},oN w us al->oN w' us al
 | [],[],_=>trivial
 |_ :: _,_ :: _,h=> ⟨h.1.grown hg hn,oN.grown hg hn h.2⟩
 | [],_ :: _,h=>h.elim
 |_ :: _,[],h=>h.elim
theorem oN.snoc {u:Value} {a:Wr} (ha:rm w u a):∀{us:List Value} {al:List Wr},oN w us al->oN w (us++[u]) (al++[a])
 | [],[],_=> ⟨ha,trivial⟩
 |_ :: _,_ :: _,h=> ⟨h.1,oN.snoc ha h.2⟩
 | [],_ :: _,h=>h.elim
 |_ :: _,[],h=>h.elim
theorem oN.len:∀{us:List Value} {al:List Wr},oN w us al->us.length=al.length
 | [],[],_=>rfl
 |_ :: _,_ :: _,h=>by simp [oN.len h.2]
 | [],_ :: _,h=>h.elim
 |_ :: _,[],h=>h.elim
theorem oN.at_:∀{us:List Value} {al:List Wr} (_:oN w us al) {k:Nat} {a:Wr} (_:al[k]? =some a),∃u,us[k]? =some u/\rm w u a
 | [],[],_,_,_,h=>by simp at h
 |u :: _,_ :: _,h,0,_,hk=>by cases hk;exact ⟨u,rfl,h.1⟩
 |_ :: us,_ :: al,h,k+1,a,hk=>by simpa using oN.at_ h.2 (k:=k) (a:=a) (by simpa using hk)
 | [],_ :: _,h,_,_,_=>h.elim
 |_ :: _,[],h,_,_,_=>h.elim
variable {g B d nb fb:Nat} {t:TypeId} {cs:Array Value}
theorem iV.blk (h:Blk w g t cs) (h9:t≠9) (h3:t≠3):iV w g:=by
 intro t' cs' h';unfold Blk at h h';rw [h] at h';cases h';exact ⟨h9,h3⟩
theorem iV.fs {fs:Files} (h:Fs w g fs):iV w g:=by
 intro t' cs' h';unfold Blk at h';unfold Fs uy at h;rw [h] at h';cases h'
variable {v:Value}
theorem iV.row{n:Nat} {xs:List Value} (h:w.ownsRow B 311 1 v n xs):∀g,v.ownBlock=some g->iV w g:=by
 intro g hg t cs hb;obtain ⟨c,fz,h1⟩:=Lib.ownsRow_kind h g hg;unfold Blk at hb;rw [h1] at hb;cases hb;exact ⟨by decide,by decide⟩
def Rowed (w:World) (B:Nat) (v:Value) (al:List Wr):Prop:=∃us,w.ownsRow B 311 1 v al.length us/\oN w us al
theorem Rowed.nil_ (w:World) (B:Nat):Rowed w B (.slice none 0 0) []:=⟨[],⟨rfl,.inl ⟨rfl,rfl⟩⟩,trivial⟩
theorem Rowed.grown {B:Nat} {v:Value} {al:List Wr} {row:Option Nat} (h:Rowed w B v al) (hg:w.grownBy w' row) (hn:∀g,row=some g->iV w g) (hne:v.ownBlock=none\/v.ownBlock≠row):Rowed w' B v al:=by
 obtain ⟨us,h1,h2⟩:=h;exact ⟨us,h1.kept hg hne,h2.grown hg hn⟩
variable {al:List Wr}
theorem Rowed.ne_fs {fs:Files} (h:Rowed w B v al) (hg:Fs w g fs):v.ownBlock≠some g:=by
 intro e;obtain ⟨us,h1,_⟩:=h;obtain ⟨c,fz,h2⟩:=Lib.ownsRow_kind h1 g e;unfold Fs uy at hg;rw [h2] at hg;cases hg
theorem Rowed.ne_blk (h:Rowed w B v al) (hg:Blk w g t cs) (ht:t≠311):v.ownBlock≠some g:=by
 intro e;obtain ⟨us,h1,_⟩:=h;obtain ⟨c,fz,h2⟩:=Lib.ownsRow_kind h1 g e;unfold Blk at hg;rw [h2] at hg;cases hg;exact ht rfl
structure Dsk (B:Nat) (w:World) (d nb fb:Nat) (v:Value) (st:DS):Prop where
 blk:Blk w d 194 #[.int .i64 (st.limit:Nat),.map (some nb),.map (some fb),v,st.armed,st.dead]
 now:Fs w nb st.now
 firm:Fs w fb st.firm
 ne:nb≠fb
 acts:Rowed w B v st.acts
theorem Dsk.later {st:DS} (h:Dsk B w d nb fb v st) (hb:Below w w w'):Dsk B w' d nb fb v st:=
 ⟨h.blk.below hb h.blk.lt,h.now.below hb,h.firm.below hb,h.ne,h.acts.grown (fC hb none) (λ_ e=>by cases e) (by
  obtain ⟨us,h1,_⟩:=h.acts;rcases h1.2 with ⟨hv,_⟩| ⟨g,cap,cur,hv,_⟩
  ·left;rw [hv];rfl
  ·right;rw [hv];simp [Value.ownBlock])⟩
theorem Dsk.cells {st st':DS} (h:Dsk B w d nb fb v st) (hg:w.grownBy w' (some d))
  (hb:Blk w' d 194 #[.int .i64 (st'.limit:Nat),.map (some nb),.map (some fb),v,st'.armed,st'.dead]) (hn:st'.now=st.now) (hf:st'.firm=st.firm) (ha:st'.acts=st.acts):Dsk B w' d nb fb v st':=
 ⟨hb,by rw [hn];exact h.now.grown hg (λe=>h.now.ne_blk h.blk (by cases e;rfl)),by rw [hf];exact h.firm.grown hg (λe=>h.firm.ne_blk h.blk (by cases e;rfl)),h.ne,
  by rw [ha];exact h.acts.grown hg (λg e=>by cases e;exact iV.blk h.blk (by decide) (by decide)) (.inr (h.acts.ne_blk h.blk (by decide)))⟩
theorem Dsk.written {st:DS} {fs:Files} (h:Dsk B w d nb fb v st) (hg:w.grownBy w' (some nb)) (hn:Fs w' nb fs):Dsk B w' d nb fb v { st with now:=fs }:=
 ⟨h.blk.grown hg (λe=>h.now.ne_blk h.blk (by cases e;rfl)),hn,h.firm.grown hg (λe=>h.ne (by cases e;rfl)),h.ne,
  h.acts.grown hg (λg e=>by cases e;exact iV.fs h.now) (.inr (h.acts.ne_fs h.now))⟩
theorem Dsk.base{B':Nat} {st:DS} (h:Dsk B w d nb fb v st) (hB:B'<=B):Dsk B' w d nb fb v st:=⟨h.blk,h.now,h.firm,h.ne,by
 obtain ⟨us,h1,h2⟩:=h.acts;refine ⟨us,⟨h1.1,?_⟩,h2⟩;rcases h1.2 with h0| ⟨g,cap,cur,hv,h0,rest⟩
 ·exact .inl h0
 ·exact .inr ⟨g,cap,cur,hv,aI hB h0,rest⟩⟩
theorem Dsk.ge {st:DS} (h:Dsk B w d nb fb v st):∀g,v.ownBlock=some g->B<=g/\g < w.heap.size:=by
 obtain ⟨us,h1,h2⟩:=h.acts;exact λg hg=>h1.lt g hg
def KS (d nb:Nat) (v:Value) (i:Nat):Prop:=i=d\/i=nb\/v.ownBlock=some i
end
end Dk
namespace Nt
open Go.RowKit
structure Pk where
 f:Int
 t:Int
 d:List UInt8
deriving DecidableEq
def pc (x:Pk):List Value:=[.int .i64 x.f,.int .i64 x.t,.string (bs x.d)]
def pv (x:Pk):Value:=.agg #[x.f,x.t,x.d]
def pcs (l:List Pk):List Value:=l.flatMap pc
theorem nS (a b:List Pk):pcs (a++b)=pcs a++pcs b:=by simp [pcs]
theorem kT (l:List Pk):(pcs l).length=l.length*3:=by
 induction l with
 |nil=>rfl
 |cons x l ih=>simp only [pcs,aj,aP,aY] at ih ⊢;rw [ih];simp [pc];omega
theorem DZ (l:List Pk) (k:Nat):(pcs l).take (k*3)=pcs (l.take k):=by
 induction l generalizing k with
 |nil=>simp [pcs]
 |cons x l ih=>
  cases k with
  |zero=>simp [pcs]
  |succ k=>
   have:=ih k;simp only [pcs,aj,dA] at this ⊢;rw [<-this];simp [pc,Nat.succ_mul]
theorem G7 (l:List Pk) (k j:Nat) (hk:k < l.length) (hj:j < 3):(pcs l)[k*3+j]? =(pc l[k])[j]?:=by
 induction l generalizing k with
 |nil=>simp at hk
 |cons x l ih=>
  cases k with
  |zero=>
   simp only [pcs,aj];rw [bY (by simp [pc];omega)];simp
  |succ k=>
   have:=ih k (by simpa using hk);simp only [pcs,aj] at this ⊢;rw [bt (by simp [pc];omega)];rw [show (k+1)*3+j - (pc x).length=k*3+j from by simp [pc];omega,this];simp
section
variable {S S':Nat->Prop} {w w1 w2:World}
end
variable {v:Value} {xs:List Value}
theorem own_lt{w:World} {n g:Nat} (h:w.ownsRow 0 146 3 v n xs) (hg:v.ownBlock=some g):g < w.heap.size:=by
 rcases h.2 with ⟨rfl,_⟩| ⟨g',cap,cur,rfl,_,hh,_⟩
 ·cases hg
 ·cases hg
  exact Blk.lt (t:=146) (cs:=cur) hh
theorem tG{S:Nat->Prop} {w w':World} {n:Nat} (h:w.ownsRow 0 146 3 v n xs) (k:dm S w w') (hn:∀g,v.ownBlock=some g->¬ S g):w'.ownsRow 0 146 3 v n xs:=by
 refine ⟨h.1,?_⟩;rcases h.2 with h0| ⟨g,cap,cur,hv,h0,hh,rest⟩
 ·exact .inl h0
 ·exact .inr ⟨g,cap,cur,hv,h0,Blk.kp (t:=146) (cs:=cur) hh k (hn g (by rw [hv];rfl)),rest⟩
structure NetI (w:World) (gN:Nat) (d s:Int) (v:Value) (ps:List Pk):Prop where
 blk:Blk w gN 190 #[d,v,s]
 own:w.ownsRow 0 146 3 v ps.length (pcs ps)
 far:v.ownBlock≠some gN
def NS (gN:Nat) (v:Value) (i:Nat):Prop:=i=gN\/v.ownBlock=some i
section
variable {w w':World} {gN:Nat} {d s:Int} {v:Value} {ps:List Pk}
theorem NetI.c0 (h:NetI w gN d s v ps):w.cell? gN=d:=by rw [h.blk.cell];rfl
theorem NetI.c1 (h:NetI w gN d s v ps):w.cell? (Qc gN 1)=some v:=by rw [h.blk.cell];rfl
theorem NetI.c2 (h:NetI w gN d s v ps):w.cell? (Qc gN 2)=s:=by rw [h.blk.cell];rfl
theorem NetI.lt (h:NetI w gN d s v ps):gN < w.heap.size:=h.blk.lt
theorem NetI.slice (h:NetI w gN d s v ps):∃A c,v=.slice A ps.length c:=by
 rcases h.own.2 with ⟨e,e2⟩| ⟨g,cap,cur,e,_⟩
 ·exact ⟨none,0,by rw [e,e2]⟩
 ·exact ⟨_,cap,e⟩
theorem NetI.kp {S:Nat->Prop} (h:NetI w gN d s v ps) (k:dm S w w') (hn:∀i,S i->¬ NS gN v i):NetI w' gN d s v ps:=
 ⟨h.blk.kp k (λhS=>hn _ hS (Or.inl rfl)),tG h.own k (λ_ hg hS=>hn _ hS (Or.inr hg)),h.far⟩
theorem NetI.below (h:NetI w gN d s v ps) (hb:Below w w w'):NetI w' gN d s v ps:=h.kp (eO (S:=λ_=>False) hb) (λ_ h=>h.elim)
theorem NetI.at (h:NetI w gN d s v ps) {k:Nat} (hk:k < ps.length):∃g cap,v=.slice (some ⟨g,0,none⟩) ps.length cap/\g≠gN/\g < w.heap.size/\
  w.cell? ⟨g,k*3,none⟩=some (.int .i64 ps[k].f)/\w.cell? ⟨g,k*3+1,none⟩=some (.int .i64 ps[k].t)/\w.cell? ⟨g,k*3+2,none⟩=some (.string (bs ps[k].d)):=by
 rcases h.own.2 with ⟨_,e2⟩| ⟨g,cap,cur,rfl,_,hh,hle,lg,hsz,htk⟩
 ·omega
 ·have hB:Blk w g 146 cur:=hh
  have key:∀j,j < 3->w.cell? ⟨g,k*3+j,none⟩=(pc ps[k])[j]?:=λj hj=>by
   rw [hB.cell,<-G7 ps k j hk hj,<-htk,bf (by omega),cN]
  refine ⟨g,cap,rfl,λe=>h.far (by rw [e];rfl),hB.lt,?_,?_,?_⟩
  ·exact key 0 (by omega)
  ·exact key 1 (by omega)
  ·exact key 2 (by omega)
end
end Nt
end Go.Proofs.YtgdaahffmcfhpaaGreatDoor
