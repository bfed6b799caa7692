/- Lemmas on the way: Kq Aa Ab KDk ZA. -/
import Derived.Lib.OwnKind
import Derived.Test.YtgdaahffmcfhpaaGreatDoorT11
import Derived.Test.YtgdaahffmcfhpaaGreatDoorT13
import Derived.Test.YtgdaahffmcfhpaaGreatDoorT00
set_option linter.unusedVariables false
set_option linter.unusedSimpArgs false
set_option maxRecDepth 100000
set_option maxHeartbeats 8000000
namespace Go.Proofs.YtgdaahffmcfhpaaGreatDoor
open Tryz
section
open Go.RowKit
structure dY (S:Nat->Prop) (w w':World):Prop where
 os:w'.os=w.os
 tape:w'.tape=w.tape
 output:w'.output=w.output
 size:w.heap.size<=w'.heap.size
 block:∀i,i < w.heap.size->¬ S i->w'.heap[i]? =w.heap[i]?
section
variable {S S':Nat->Prop} {w w1 w2:World}
theorem eX (S:Nat->Prop) (w:World):dY S w w:=⟨rfl,rfl,rfl,aB _,fun _ _ _=>rfl⟩
theorem eB (h:dY S w w1) (k:dY S' w1 w2) (hs:∀i,i < w.heap.size->S' i->S i):dY S w w2:=
 ⟨k.os.trans h.os,k.tape.trans h.tape,k.output.trans h.output,aK h.size k.size,fun i hi hn=>(k.block i (aN hi h.size) (fun h=>hn (hs i hi h))).trans (h.block i hi hn)⟩
theorem mh (h:dY S' w w1) (hs:∀i,i < w.heap.size->S' i->S i):dY S w w1:=⟨h.os,h.tape,h.output,h.size,fun i hi hn=>h.block i hi (fun h=>hn (hs i hi h))⟩
theorem eR (h:Below w.heap.size w w1):dY S w w1:=⟨h.os,h.tape,h.output,h.size,fun i hi _=>h.block i hi⟩
theorem gI (h:dY S w w1) (k:Below w1.heap.size w1 w2):dY S w w2:=eB h (eR (S:=S) k) (fun _ _ h=>h)
theorem ep {r:Option Nat} (h:w.grownBy w1 r) (hs:∀i,r=some i->S i):dY S w w1:=
 ⟨h.os,h.tape,h.output,h.size,fun i hi hn=>h.block i hi (fun e=>hn (hs i e.symm))⟩
theorem ql (h:dY S w w1) (o:Obj):dY S w (w1.alloc o):=gI h ((aC _ w1).alloc (aB _) o)
theorem de (h:dY S w w1) (p:Addr) (v:Value) (hp:p.block < w.heap.size->S p.block):dY S w (w1.setCell p v):=
 ⟨h.os,h.tape,h.output,by simpa [World.setCell] using h.size,fun i hi hn=>(bx w1 p v i (by rintro rfl;exact hn (hp hi))).trans (h.block i hi hn)⟩
theorem eS {B:Nat} {w0:World} (hb:Below B w0 w) (h:dY S w w1) (hs:∀i,S i->B<=i) (hB:B<=w.heap.size):Below B w0 w1:=
 hb.trans ⟨h.os,h.tape,h.output,h.size,fun k hk=>h.block k (by omega) (fun hS=>by have:=hs k hS;omega)⟩
theorem Blk.kp {g:Nat} {t:TypeId} {cs:Array Value} (h:Blk w g t cs) (k:dY S w w1) (hn:¬ S g):Blk w1 g t cs:=(k.block g h.lt hn).trans h
theorem dN.kp {B size n:Nat} {v:Value} {xs:List Value} (h:dN w B size v n xs) (k:dY S w w1) (hn:∀g,v.ownBlock=some g->¬ S g):dN w1 B size v n xs:=by
 refine ⟨h.1,?_⟩;rcases h.2 with h0| ⟨g,cap,rfl,hb,hlt,hnc,hcm,hs,hf,hx⟩
 ·exact .inl h0
 ·have hblk:w1.heap[g]? =w.heap[g]?:=k.block g hlt (hn g rfl)
  have hc:∀j,w1.cell? ⟨g,j,none⟩=w.cell? ⟨g,j,none⟩:=fun j=>aI (a:=⟨g,j,none⟩) hblk
  have hz:∀j,w1.frozen? ⟨g,j,none⟩=w.frozen? ⟨g,j,none⟩:=fun j=>World.frozen?_of_block (a:=⟨g,j,none⟩) hblk
  exact .inr ⟨g,cap,rfl,hb,aN hlt k.size,hnc,hcm,fun j hj=>by rw [hc];exact hs j hj,fun j hj=>by rw [hz];exact hf j hj,fun j u hu=>by rw [hc];exact hx j u hu⟩
end
abbrev BS:=Nat->Prop
def jV (F G:BS):Prop:=∀i,F i->¬ G i
def P6 (F:BS) (w:World):Prop:=∀i,F i->i < w.heap.size
def Li (F F':BS) (w:World):Prop:=∀i,F' i->F i\/w.heap.size<=i
theorem Li.refl (F:BS) (w:World):Li F F w:=fun _ h=>.inl h
theorem Li.trans {F F' F2:BS} {w w':World} (h:Li F F' w) (k:Li F' F2 w') (hs:w.heap.size<=w'.heap.size):Li F F2 w:=fun i hi=>by
 rcases k i hi with h1|h1
 ·exact h i h1
 ·exact .inr (by omega)
theorem jV.symm {F G:BS} (h:jV F G):jV G F:=fun i hg hf=>h i hf hg
theorem jV.gro {F F' G:BS} {w:World} (h:jV F G) (k:Li F F' w) (hb:P6 G w):jV F' G:=fun i hi hg=>by
 rcases k i hi with h1|h1
 ·exact h i h1 hg
 ·have:=hb i hg;omega
structure gT (F F':BS) (w w':World):Prop where
 keeps:dY F w w'
 gro:Li F F' w
theorem gT.below {w w':World} (F:BS) (h:Below w.heap.size w w'):gT F F w w':=⟨eR h,Li.refl _ _⟩
theorem gT.trans {F F' F2:BS} {w w' w2:World} (h:gT F F' w w') (k:gT F' F2 w' w2):gT F F2 w w2:=
 ⟨eB h.keeps k.keeps (fun i hi h1=>by
  rcases h.gro i h1 with h2|h2
  ·exact h2
  ·omega),h.gro.trans k.gro h.keeps.size⟩
theorem gT.then_ {F F':BS} {w w' w2:World} (h:gT F F' w w') (k:Below w'.heap.size w' w2):gT F F' w w2:=h.trans (gT.below _ k)
theorem gT.size {F F':BS} {w w':World} (h:gT F F' w w'):w.heap.size<=w'.heap.size:=h.keeps.size
end
section
open Go.RowKit
attribute [local go_sem] dO dL dQ dM
def qA:List UInt8:=[115,101,103,45,48]
theorem Xa (w:World):Calls prog 232 #[.int .i64 0] w (dJ w (.string (bs [48]))):=by
 refine (strconv_Itoa_small 0 (by decide) w).mono ?_;rintro e w' ⟨rfl,rfl⟩;exact ⟨by first|rfl|kernel_rfl,aC _ _⟩
theorem yh (w:World):Calls prog 308 #[.int .i64 0] w (dJ w (.string (bs qA))):=by
 have HI:=dH (Xa w);go_enter func308,ntmps308;go_wp2_with fail;refine HI.o.mono ?_;rintro e w1 ⟨rfl,hb⟩;have HB:=dH hb;clear hb;go_wp2_with fail;go_ret;exact ⟨rfl,HB.o⟩
def yj (n:Int) (s:List UInt8):List UInt8:=Pt.Cd.numL n++Pt.Cd.textL s
def ny (n:Int) (s:List UInt8):List UInt8:=Pt.Cd.numL ((Cr.sumL (yj n s):Nat):Int)++Pt.Cd.textL (yj n s)
theorem eL (n:Int):(Pt.Cd.numL n).length<=9:=Pt.Cd.numU_len _
theorem fK (s:List UInt8):(Pt.Cd.textL s).length<=9+s.length:=by
 unfold Pt.Cd.textL;have:=eL (s.length:Int);simp;omega
theorem mj (n:Int) (s:List UInt8):(ny n s).length<=36+s.length:=by
 unfold ny yj;have h1:=eL ((Cr.sumL (Pt.Cd.numL n++Pt.Cd.textL s):Nat):Int);have h2:=fK (Pt.Cd.numL n++Pt.Cd.textL s);have h3:=eL n;have h4:=fK s;simp only [aO] at*;omega
theorem oW (n:Int) (hn:-9223372036854775808<=n/\n<=9223372036854775807) (s:List UInt8) (hs:s.length<=100000) (w:World):
  Calls prog 411 #[.int .i64 n,.string (bs s)] w (dJ w (.string (bs (ny n s)))):=by
 have h1:=eL n;have h2:=fK s;have hlt:Cr.sumL (yj n s) < 4294967296:=Cr.moreL_lt 0 _;obtain ⟨B,hB⟩:=dB (yj n s);have iZ:B.length<=200000:=by rw [hB];unfold yj;simp only [aO];omega
 have hF:ny n s=Pt.Cd.numL ((Cr.sumL B:Nat):Int)++Pt.Cd.textL B:=by rw [hB];rfl
 have hN:=eL ((Cr.sumL B:Nat):Int);have hT:=fK B;rw [<-hB] at hlt;have HB:=dH hB;have HF:=dH hF;obtain ⟨X,hX⟩:∃X:Int,X=((Cr.sumL B:Nat):Int):=⟨_,rfl⟩;have hXb:-9223372036854775808<=X/\X<=9223372036854775807:=by omega
 have HS:=dH (fun w:World=>Cr.sum_c B (by omega) w);rw [<-hX] at hN;have HX:=dH hX;clear hB hF hX hlt;go_enter func411,ntmps411;go_wp2_with fail;refine (Pt.Cd.num_c n _ hn).mono ?_;rintro e w1 ⟨rfl,dR⟩;have eH:=dH dR;clear dR;go_wp2_with fail;refine (Pt.Cd.text_c s _ (by omega)).mono ?_;rintro e w2 ⟨rfl,dS⟩;have eG:=dF eH dS;have e1:Pt.Cd.numL n++Pt.Cd.textL s=B:=by rw [HB.o];rfl
 clear dS;go_wp2_with fail;refine (HS.o _).mono ?_;rintro e w3 ⟨rfl,di⟩;rw [<-HX.o];have dw:=dF eG di;clear di e1;go_wp2_with fail;refine (Pt.Cd.num_c X _ hXb).mono ?_;rintro e w4 ⟨rfl,hb4⟩;have fD:=dF dw hb4;clear hb4;go_wp2_with fail;refine (Pt.Cd.text_c B _ (by omega)).mono ?_;rintro e w5 ⟨rfl,eu⟩;have fk:=dF fD eu;clear eu;go_wp2_with fail;go_ret;exact ⟨by rw [HF.o,<-HX.o];rfl,fk.o⟩
theorem vZ (s:List UInt8) (h1:1<=s.length) (h2:s.length<=256) (w:World):Calls prog 312 #[.string (bs s)] w fun e w'=>e=.returned (.bool true)/\w=w':=by
 have c0:(s ==[])=false:=by
  rw [beq_eq_false_iff_ne];exact fun e=>by rw [e] at h1;simp at h1
 have c1:decide ((s.length:Int)<=256)=true:=by simp;omega
 go_enter func312,ntmps312;go_wp2_with fail;go_ret;exact ⟨by simp [c0,c1],rfl⟩
theorem Q7 (w:World):(Instr.makeMap 195 none).run prog w=.ok (.map (some w.heap.size)) (w.alloc (.map #[] 0)):=by simp [go_sem,Instr.makeMap]
theorem yl (w:World):Calls prog 67 #[] w fun e w'=>∃p,e=.returned (.pointer (some ⟨p,0,none⟩))/\Below w.heap.size w w':=by
 have hm:=Q7 w;go_enter func67,ntmps67;go_wp2_with fail;go_ret;exact ⟨_,rfl,((aC _ w).alloc (aB _) _).alloc (by simp) _⟩
theorem Xb (w:World):Calls prog 250 #[.int .i64 0,.slice none 0 0] w (dJ w (.tuple #[.agg #[.int .i64 1,.int .i64 0],.int .i64 0])):=by
 go_enter func250,ntmps250;go_wp2_with fail;refine wp_loop_rounds 1 ?_;rw [rounds_succ];go_wp2_with fail;exact bodyPost_ret (v:=.tuple #[.agg #[.int .i64 1,.int .i64 0],.int .i64 0]) (by simp [results,results250,go_sem]) rfl ⟨rfl,(aC _ w).alloc (aB _) _⟩
end
section
open Go.RowKit
attribute [local go_sem] dO dL dQ dM
def tw (w:World) (g:Nat) (r:List UInt8):Prop:=∃d a,Pt.Cd.Rd w g d a 0/\a<=d.length/\d.length<=1000000/\d.drop a=r
section
variable {w w':World} {g:Nat} {r:List UInt8}
theorem tw.lt (h:tw w g r):g < w.heap.size:=by
 obtain ⟨d,a,h,_⟩:=h;exact Blk.lt h
theorem tw.below (h:tw w g r) (hb:Below w.heap.size w w'):tw w' g r:=by
 obtain ⟨d,a,h,h2⟩:=h;exact ⟨d,a,Blk.below h hb (Blk.lt h),h2⟩
theorem tw.far {q:Nat} (h:tw w g r) (hb:w.grownBy w' (some q)) (hne:g≠q):tw w' g r:=by
 obtain ⟨d,a,h,h2⟩:=h;exact ⟨d,a,Blk.grown h hb (by intro e;cases e;exact hne rfl),h2⟩
theorem AF (d:List UInt8) (hd:d.length<=1000000) (w:World):
  Calls prog 214 #[.string (bs d)] w fun e w'=>e=.returned (.pointer (some ⟨w.heap.size,0,none⟩))/\tw w' w.heap.size d/\Below w.heap.size w w':=
 (Pt.Cd.Read_any d w).mono fun e w' ⟨h1,h2,h3⟩=> ⟨h1,⟨d,0,h2,aT _,hd,rfl⟩,h3⟩
theorem ym {d p r:List UInt8} {a:Nat} (ha:a<=d.length) (h:d.drop a=p++r):a+p.length<=d.length/\d.drop (a+p.length)=r:=by
 have hl:=congrArg List.length h;rw [ax,aO] at hl;refine ⟨by omega,?_⟩;rw [<-List.drop_drop,h,List.drop_left]
theorem kZ (n:Int) (hn:-9223372036854775808<=n/\n<=9223372036854775807) (h:tw w g (Pt.Cd.numL n++r)):
  Calls prog 215 #[.pointer (some ⟨g,0,none⟩)] w fun e w'=>e=.returned (.int .i64 n)/\tw w' g r/\w.grownBy w' (some g):=by
 obtain ⟨d,a,hR,ha,hd,hr⟩:=h;obtain ⟨h1,h2⟩:=ym ha hr;have hs:Pt.Cd.numS d a 0=(a+(Pt.Cd.numL n).length,0,Pt.Cd.u64 n):=by
  unfold Pt.Cd.numS;rw [if_pos rfl];exact Pt.Cd.num_app (Pt.Cd.u64_lt n) hr
 refine (Pt.Cd.Num_any g d a 0 w hR ha (by omega)).mono ?_;rintro e w' ⟨rfl,hR',hg⟩;rw [hs] at hR' ⊢;exact ⟨by rw [Pt.Cd.toI_u64 hn],⟨d,_,hR',h1,hd,h2⟩,hg⟩
theorem AG (t:List UInt8) (h:tw w g (Pt.Cd.textL t++r)) (ht:t.length<=1000000):
  Calls prog 329 #[.pointer (some ⟨g,0,none⟩)] w fun e w'=>e=.returned (.string (bs t))/\tw w' g r/\w.grownBy w' (some g):=by
 obtain ⟨d,a,hR,ha,hd,hr⟩:=h;obtain ⟨h1,h2⟩:=ym ha hr;have hs:Pt.Cd.textS d a 0=(a+(Pt.Cd.textL t).length,0,t):=Pt.Cd.text_app (by omega) hr;refine (Pt.Cd.Text_any g d a 0 w hR ha (by omega)).mono ?_;rintro e w' ⟨rfl,hR',hg⟩;rw [hs] at hR' ⊢;exact ⟨rfl,⟨d,_,hR',h1,hd,h2⟩,hg⟩
theorem nO (h:tw w g r):Calls prog 216 #[.pointer (some ⟨g,0,none⟩)] w fun e w'=>e=.returned (.int .i64 0)/\w=w':=by
 obtain ⟨d,a,hR,_⟩:=h;exact Pt.Cd.Err_any g d a 0 w hR
theorem Gg (h:tw w g []):Calls prog 332 #[.pointer (some ⟨g,0,none⟩)] w (dJ w (.int .i64 0)):=by
 obtain ⟨d,a,hR,ha,hd,hr⟩:=h;have hl:=congrArg List.length hr;rw [ax] at hl;refine (Pt.Cd.End_any g d a 0 w hR ha (by omega)).mono ?_;rintro e w' ⟨rfl,hb⟩;refine ⟨?_,hb⟩;unfold Pt.Cd.endS;rw [if_pos rfl,if_neg (by simp at hl;omega)]
end
def oA (s:St):List UInt8:=Pt.Cd.numL s.1++Pt.Cd.numL s.2
theorem AH {g:Nat} {r:List UInt8} {w:World} (s:St) (h1:nU s.1) (h2:nU s.2) (h:tw w g (oA s++r)):
  Calls prog 357 #[.pointer (some ⟨g,0,none⟩)] w fun e w'=>e=.returned (sv s)/\tw w' g r/\w.grownBy w' (some g):=by
 obtain ⟨w0,hw0⟩:=dB (w.alloc (.cells #[.int .i64 0,.int .i64 0] 30));have hb0:Below w.heap.size w w0:=by rw [hw0];exact (aC _ w).alloc (aB _) _
 have qK:Blk w0 w.heap.size 30 #[.int .i64 0,.int .i64 0]:=by rw [hw0];exact Blk.new _ _ _
 have pS:=h.lt;have hR0:=h.below hb0;unfold oA at hR0;rw [bK] at hR0;have HW:=dH hw0;have wY:=dH qK;have HR0:=dH hR0;have Hb0:=dH hb0;clear hw0 qK hR0 hb0 h;unfold sv;go_enter func357,ntmps357;go_wp2_with fail;rw [<-HW.o];refine (kZ s.1 h1 HR0.o).mono ?_;rintro e w1 ⟨rfl,nG,hg1⟩;have BC:=dH nG;have sS:=dH hg1;clear nG hg1;go_wp2_with fail;refine (kZ s.2 h2 BC.o).mono ?_;rintro e w2 ⟨rfl,tf,hg2⟩;have hG2:=fT sS.o hg2;have eY:Blk w2 w.heap.size 30 #[.int .i64 0,.int .i64 0]:=wY.o.grown hG2 (by intro e;cases e;omega);have f0:=eY.frozen 0;have f1:=eY.frozen 1;have c0:=eY.cell 0;have c1:=eY.cell 1;simp at c0 c1;have uF:=(eY.set_ 0 (.int .i64 s.1)).set_ 1 (.int .i64 s.2);have d0:=uF.cell 0;have d1:=uF.cell 1;simp at d0 d1;have hg3:w2.grownBy ((w2.setCell ⟨w.heap.size,0,none⟩ (.int .i64 s.1)).setCell ⟨w.heap.size,1,none⟩ (.int .i64 s.2)) (some w.heap.size):=dh (dh (dx w2 _) (p:=⟨w.heap.size,0,none⟩) (.inl rfl) _) (p:=⟨w.heap.size,1,none⟩) (.inl rfl) _;have O5:=dH (tf.far hg3 (by omega));have Fy:w.grownBy w2 (some g):=fT (eo Hb0.o _) hG2;have Bd:dG (w.grownBy ((w2.setCell ⟨w.heap.size,0,none⟩ (.int .i64 s.1)).setCell ⟨w.heap.size,1,none⟩ (.int .i64 s.2)) (some g)):=dH (dh (dh Fy (p:=⟨w.heap.size,0,none⟩) (.inr (aB _)) _) (p:=⟨w.heap.size,1,none⟩) (.inr (aB _)) _);clear hG2 eY uF hg3 Fy tf hg2;go_wp2_with fail;exact bodyPost_ret (v:=.agg #[.int .i64 s.1,.int .i64 s.2]) (by simp [results,results357,go_sem,d0,d1]) rfl ⟨rfl,O5.o,Bd.o⟩
end
namespace Dk
open Go.RowKit Fm
def zeros (n:Nat):List UInt8:=List.replicate n 0
structure Wr where
 name:Bytes
 at_:Nat
 data:Bytes
def laidL (s:Bytes) (k:Nat) (data:Bytes):Bytes:=
 let s':=s++zeros (k - s.length)
 s'.take k++data++s'.drop (min s'.length (k+data.length))
def half (Wj:Bool) (l:Bytes):Bytes:=if Wj then l.take (l.length / 2) else l
def doneL (fs:Files) (a:Wr) (Wj:Bool):Files:=put fs a.name (laidL ((Fm.get fs a.name).getD []) a.at_ (half Wj a.data))
structure DS where
 limit:Nat
 now:Files
 firm:Files
 acts:List Wr
 armed:Int
 dead:Bool
def tC (w:World) (u:Value) (a:Wr):Prop:=
 ∃p q r,u=.func (.func 420) #[] #[.pointer (some ⟨p,0,none⟩),.pointer (some ⟨q,0,none⟩),.pointer (some ⟨r,0,none⟩)]/\Blk w p 9 #[.string (bs a.data)]/\Blk w q 9 #[.string (bs a.name)]/\Blk w r 3 #[.int .i64 (a.at_:Nat)]
def u5 (w:World):List Value->List Wr->Prop
 | [],[]=>True
 |u :: us,a :: r=>tC w u a/\u5 w us r
 |_,_=>False
def iA (w:World) (g:Nat):Prop:=∀t cs,Blk w g t cs->t≠9/\t≠3
section
variable {w w':World}
theorem tC.grown {u:Value} {a:Wr} {row:Option Nat} (h:tC w u a) (hg:w.grownBy w' row) (hn:∀g,row=some g->iA w g):tC w' u a:=by
 obtain ⟨p,q,r,e,hp,hq,hr⟩:=h;have ne:∀{i t cs},Blk w i t cs->t=9\/t=3->some i≠row:=by
  intro i t cs hb ht e;have:=hn i e.symm t cs hb;rcases ht with ht|ht
  ·exact this.1 ht
  ·exact this.2 ht
 exact ⟨p,q,r,e,hp.grown hg (ne hp (.inl rfl)),hq.grown hg (ne hq (.inl rfl)),hr.grown hg (ne hr (.inr rfl))⟩
theorem u5.grown {row:Option Nat} (hg:w.grownBy w' row) (hn:∀g,row=some g->iA w g):∀{us:List Value} {al:List Wr},u5 w us al->u5 w' us al
 | [],[],_=>trivial
 |_ :: _,_ :: _,h=> ⟨h.1.grown hg hn,u5.grown hg hn h.2⟩
 | [],_ :: _,h=>h.elim
 |_ :: _,[],h=>h.elim
theorem u5.snoc {u:Value} {a:Wr} (ha:tC w u a):∀{us:List Value} {al:List Wr},u5 w us al->u5 w (us++[u]) (al++[a])
 | [],[],_=> ⟨ha,trivial⟩
 |_ :: _,_ :: _,h=> ⟨h.1,u5.snoc ha h.2⟩
 | [],_ :: _,h=>h.elim
 |_ :: _,[],h=>h.elim
theorem iA.blk {g:Nat} {t:TypeId} {cs:Array Value} (h:Blk w g t cs) (h9:t≠9) (h3:t≠3):iA w g:=by
 intro t' cs' h';unfold Blk at h h';rw [h] at h';cases h';exact ⟨h9,h3⟩
theorem iA.fs {g:Nat} {fs:Files} (h:Fs w g fs):iA w g:=by
 intro t' cs' h';unfold Blk at h';unfold Fs tq at h;rw [h] at h';cases h'
theorem iA.row {B n:Nat} {v:Value} {xs:List Value} (h:w.ownsRow B 311 1 v n xs):∀g,v.ownBlock=some g->iA w g:=by
 intro g hg t cs hb;obtain ⟨c,fz,h1⟩:=Lib.ownsRow_kind h g hg;unfold Blk at hb;rw [h1] at hb;cases hb;exact ⟨by decide,by decide⟩
def Rowed (w:World) (B:Nat) (v:Value) (al:List Wr):Prop:=∃us,w.ownsRow B 311 1 v al.length us/\u5 w us al
theorem Rowed.nil_ (w:World) (B:Nat):Rowed w B (.slice none 0 0) []:=⟨[],⟨rfl,.inl ⟨rfl,rfl⟩⟩,trivial⟩
theorem Rowed.grown {B:Nat} {v:Value} {al:List Wr} {row:Option Nat} (h:Rowed w B v al) (hg:w.grownBy w' row) (hn:∀g,row=some g->iA w g) (hne:v.ownBlock=none\/v.ownBlock≠row):Rowed w' B v al:=by
 obtain ⟨us,h1,h2⟩:=h;exact ⟨us,h1.kept hg hne,h2.grown hg hn⟩
theorem Rowed.ne_fs {B g:Nat} {v:Value} {al:List Wr} {fs:Files} (h:Rowed w B v al) (hg:Fs w g fs):v.ownBlock≠some g:=by
 intro e;obtain ⟨us,h1,_⟩:=h;obtain ⟨c,fz,h2⟩:=Lib.ownsRow_kind h1 g e;unfold Fs tq at hg;rw [h2] at hg;cases hg
theorem Rowed.ne_blk {B g:Nat} {v:Value} {al:List Wr} {t:TypeId} {cs:Array Value} (h:Rowed w B v al) (hg:Blk w g t cs) (ht:t≠311):v.ownBlock≠some g:=by
 intro e;obtain ⟨us,h1,_⟩:=h;obtain ⟨c,fz,h2⟩:=Lib.ownsRow_kind h1 g e;unfold Blk at hg;rw [h2] at hg;cases hg;exact ht rfl
structure Dsk (B:Nat) (w:World) (d nb fb:Nat) (v:Value) (st:DS):Prop where
 blk:Blk w d 194 #[.int .i64 (st.limit:Nat),.map (some nb),.map (some fb),v,.int .i64 st.armed,.bool st.dead]
 now:Fs w nb st.now
 firm:Fs w fb st.firm
 ne:nb≠fb
 acts:Rowed w B v st.acts
theorem Dsk.later {B d nb fb:Nat} {v:Value} {st:DS} (h:Dsk B w d nb fb v st) (hb:Below w.heap.size w w'):Dsk B w' d nb fb v st:=
 ⟨h.blk.below hb h.blk.lt,h.now.below hb,h.firm.below hb,h.ne,h.acts.grown (eo hb none) (fun _ e=>by cases e) (by
  obtain ⟨us,h1,_⟩:=h.acts;rcases h1.2 with ⟨hv,_⟩| ⟨g,cap,cur,hv,_⟩
  ·left;rw [hv];rfl
  ·right;rw [hv];simp [Value.ownBlock])⟩
theorem Dsk.cells {B d nb fb:Nat} {v:Value} {st st':DS} (h:Dsk B w d nb fb v st) (hg:w.grownBy w' (some d))
  (hb:Blk w' d 194 #[.int .i64 (st'.limit:Nat),.map (some nb),.map (some fb),v,.int .i64 st'.armed,.bool st'.dead]) (hn:st'.now=st.now) (hf:st'.firm=st.firm) (ha:st'.acts=st.acts):Dsk B w' d nb fb v st':=
 ⟨hb,by rw [hn];exact h.now.grown hg (fun e=>h.now.ne_blk h.blk (by cases e;rfl)),by rw [hf];exact h.firm.grown hg (fun e=>h.firm.ne_blk h.blk (by cases e;rfl)),h.ne,
  by rw [ha];exact h.acts.grown hg (fun g e=>by cases e;exact iA.blk h.blk (by decide) (by decide)) (.inr (h.acts.ne_blk h.blk (by decide)))⟩
theorem Dsk.written {B d nb fb:Nat} {v:Value} {st:DS} {fs:Files} (h:Dsk B w d nb fb v st) (hg:w.grownBy w' (some nb)) (hn:Fs w' nb fs):Dsk B w' d nb fb v { st with now:=fs }:=
 ⟨h.blk.grown hg (fun e=>h.now.ne_blk h.blk (by cases e;rfl)),hn,h.firm.grown hg (fun e=>h.ne (by cases e;rfl)),h.ne,
  h.acts.grown hg (fun g e=>by cases e;exact iA.fs h.now) (.inr (h.acts.ne_fs h.now))⟩
theorem Dsk.ge {B d nb fb:Nat} {v:Value} {st:DS} (h:Dsk B w d nb fb v st):∀g,v.ownBlock=some g->B<=g/\g < w.heap.size:=by
 obtain ⟨us,h1,h2⟩:=h.acts;exact fun g hg=>h1.lt g hg
def KS (d nb:Nat) (v:Value) (i:Nat):Prop:=i=d\/i=nb\/v.ownBlock=some i
end
end Dk
namespace Nt
open Go.RowKit
structure Pk where
 f:Int
 t:Int
 d:List UInt8
deriving DecidableEq
def pc (x:Pk):List Value:=[.int .i64 x.f,.int .i64 x.t,.string (bs x.d)]
def pv (x:Pk):Value:=.agg #[.int .i64 x.f,.int .i64 x.t,.string (bs x.d)]
def pcs (l:List Pk):List Value:=l.flatMap pc
theorem mo (a b:List Pk):pcs (a++b)=pcs a++pcs b:=by simp [pcs]
theorem jw (l:List Pk):(pcs l).length=l.length*3:=by
 induction l with
 |nil=>rfl
 |cons x l ih=>simp only [pcs,au,aO,aQ] at ih ⊢;rw [ih];simp [pc];omega
theorem CQ (l:List Pk) (k:Nat):(pcs l).take (k*3)=pcs (l.take k):=by
 induction l generalizing k with
 |nil=>simp [pcs]
 |cons x l ih=>
  cases k with
  |zero=>simp [pcs]
  |succ k=>
   have:=ih k;simp only [pcs,au,cU] at this ⊢;rw [<-this];simp [pc,Nat.succ_mul,List.take_append]
theorem Eo (l:List Pk) (k j:Nat) (hk:k < l.length) (hj:j < 3):(pcs l)[k*3+j]? =(pc l[k])[j]?:=by
 induction l generalizing k with
 |nil=>simp at hk
 |cons x l ih=>
  cases k with
  |zero=>
   simp only [pcs,au];rw [bt (by simp [pc];omega)];simp
  |succ k=>
   have:=ih k (by simpa using hk);simp only [pcs,au] at this ⊢;rw [bu (by simp [pc];omega)];rw [show (k+1)*3+j - (pc x).length=k*3+j from by simp [pc];omega,this];simp
section
variable {S S':Nat->Prop} {w w1 w2:World}
end
theorem own_lt {w:World} {v:Value} {n g:Nat} {xs:List Value} (h:w.ownsRow 0 146 3 v n xs) (hg:v.ownBlock=some g):g < w.heap.size:=by
 rcases h.2 with ⟨rfl,_⟩| ⟨g',cap,cur,rfl,_,hh,_⟩
 ·cases hg
 ·cases hg
  exact Blk.lt (t:=146) (cs:=cur) hh
theorem rq {S:Nat->Prop} {w w':World} {v:Value} {n:Nat} {xs:List Value} (h:w.ownsRow 0 146 3 v n xs) (k:dY S w w') (hn:∀g,v.ownBlock=some g->¬ S g):w'.ownsRow 0 146 3 v n xs:=by
 refine ⟨h.1,?_⟩;rcases h.2 with h0| ⟨g,cap,cur,hv,h0,hh,rest⟩
 ·exact .inl h0
 ·exact .inr ⟨g,cap,cur,hv,h0,Blk.kp (t:=146) (cs:=cur) hh k (hn g (by rw [hv];rfl)),rest⟩
structure NetI (w:World) (gN:Nat) (d s:Int) (v:Value) (ps:List Pk):Prop where
 blk:Blk w gN 190 #[.int .i64 d,v,.int .i64 s]
 own:w.ownsRow 0 146 3 v ps.length (pcs ps)
 far:v.ownBlock≠some gN
def NS (gN:Nat) (v:Value) (i:Nat):Prop:=i=gN\/v.ownBlock=some i
section
variable {w w':World} {gN:Nat} {d s:Int} {v:Value} {ps:List Pk}
theorem NetI.c0 (h:NetI w gN d s v ps):w.cell? ⟨gN,0,none⟩=some (.int .i64 d):=by rw [h.blk.cell];rfl
theorem NetI.c1 (h:NetI w gN d s v ps):w.cell? ⟨gN,1,none⟩=some v:=by rw [h.blk.cell];rfl
theorem NetI.c2 (h:NetI w gN d s v ps):w.cell? ⟨gN,2,none⟩=some (.int .i64 s):=by rw [h.blk.cell];rfl
theorem NetI.lt (h:NetI w gN d s v ps):gN < w.heap.size:=h.blk.lt
theorem NetI.slice (h:NetI w gN d s v ps):∃A c,v=.slice A ps.length c:=by
 rcases h.own.2 with ⟨e,e2⟩| ⟨g,cap,cur,e,_⟩
 ·exact ⟨none,0,by rw [e,e2]⟩
 ·exact ⟨_,cap,e⟩
theorem NetI.kp {S:Nat->Prop} (h:NetI w gN d s v ps) (k:dY S w w') (hn:∀i,S i->¬ NS gN v i):NetI w' gN d s v ps:=
 ⟨h.blk.kp k (fun hS=>hn _ hS (Or.inl rfl)),rq h.own k (fun _ hg hS=>hn _ hS (Or.inr hg)),h.far⟩
theorem NetI.below (h:NetI w gN d s v ps) (hb:Below w.heap.size w w'):NetI w' gN d s v ps:=h.kp (eR (S:=fun _=>False) hb) (fun _ h=>h.elim)
theorem NetI.at (h:NetI w gN d s v ps) {k:Nat} (hk:k < ps.length):∃g cap,v=.slice (some ⟨g,0,none⟩) ps.length cap/\g≠gN/\g < w.heap.size/\
  w.cell? ⟨g,k*3,none⟩=some (.int .i64 ps[k].f)/\w.cell? ⟨g,k*3+1,none⟩=some (.int .i64 ps[k].t)/\w.cell? ⟨g,k*3+2,none⟩=some (.string (bs ps[k].d)):=by
 rcases h.own.2 with ⟨_,e2⟩| ⟨g,cap,cur,rfl,_,hh,hle,qJ,hsz,htk⟩
 ·omega
 ·have hB:Blk w g 146 cur:=hh
  have key:∀j,j < 3->w.cell? ⟨g,k*3+j,none⟩=(pc ps[k])[j]?:=fun j hj=>by
   rw [hB.cell,<-Eo ps k j hk hj,<-htk,bW (by omega),cC]
  refine ⟨g,cap,rfl,fun e=>h.far (by rw [e];rfl),hB.lt,?_,?_,?_⟩
  ·exact key 0 (by omega)
  ·exact key 1 (by omega)
  ·exact key 2 (by omega)
end
end Nt
end Go.Proofs.YtgdaahffmcfhpaaGreatDoor
