/- Lemmas on the way: Qd Qe Qi Qj. -/
import Derived.Test.YtgdaahffmcfhpaaGreatDoorO48
set_option maxRecDepth 100000
set_option maxHeartbeats 8000000
namespace Go.Proofs.YtgdaahffmcfhpaaGreatDoor
open aA
open Tryz
section
open Go.RowKit
attribute [local go_sem] dR dO dS dP
def V5 (l:List Bool):List Value:=l.map Value.bool
def oL (rs:List Rl) (ys:List It):List Bool:=ys.map λx=>jS rs x.path x.dir
variable {rs:List Rl} {ys:List It} {k B pos n M q S:Nat}
theorem Ln (h:k < ys.length):V5 (oL rs (ys.take (k+1)))=V5 (oL rs (ys.take k))++[.bool (jS rs ys[k].path ys[k].dir)]:=by
 unfold V5 oL;rw [ay h,bQ,bQ];rfl
def BoC (cs:List Value) (x:Bool):Prop:=cs=[.bool x]
abbrev Bos (w:World) (A:Option Addr) (n c:Nat) (xs:List Bool):Prop:=Sl w 1 BoC A n c xs
variable {w W w' w4:World}
theorem Bos.at_ {A:Option Addr} {c:Nat} {xs:List Bool} (h:Bos w A n c xs) (hk:k < xs.length):
  ∃b off,A=some ⟨b,off,none⟩/\b < w.heap.size/\w.cell? ⟨b,off+k,none⟩=some (.bool xs[k]):=by
 obtain ⟨b,off,cs,e,hlt,hl,rfl,hc⟩:=h.4 k hk;refine ⟨b,off,e,hlt,?_⟩;have:=hc 0 _ rfl;simpa using this
variable {v:Value}
theorem dQ.bos {xs:List Bool} (h:dQ w B 1 v n (V5 xs)) (hn:n=xs.length):∃A c,v=.slice A n c/\Bos w A n c xs:=by
 subst hn;rcases h.2 with ⟨rfl,h0⟩| ⟨g,cap,rfl,hb,hlt,hnc,hcm,_,_,hx⟩
 ·obtain rfl:xs=[]:=az h0
  exact ⟨none,0,rfl,Sl.nil_⟩
 ·refine ⟨_,cap,rfl,rfl,hnc,by unfold maxLen at hcm;omega,λi hi=> ⟨g,0,[.bool xs[i]],rfl,hlt,rfl,rfl,λj u hu=>?_⟩⟩
  match j,hu with
  |0,hu=>
   cases hu;have:=hx i (.bool xs[i]) (by simp [V5,hi]);simpa using this
theorem Pq (rs:List Rl) (AR:Option Addr) (nr cr:Nat) (ys:List It) (A:Option Addr) (n c:Nat) (w:World) (hr:Ee w AR nr cr rs) (hs:∀x∈rs,x.txt.length<=300) (hx:yo w A n c ys) (hp:∀x∈ys,x.path.length<=1000000) (hl:ys.length<=1000):
  Calls prog 64 #[Qq A n c,Qq AR nr cr] w λe w'=>∃v,e=.returned v/\dQ w' w 1 v n (V5 (oL rs ys))/\Below w w w':=by
 obtain ⟨i0,gV,hz0,hz1,hz2⟩:=info_parts Oy;have hn:=hx.len;have lg:=hx.max;have hle:=hx.le;have HX:=dL hx;have HR:=dL hr;have HS:=dL hs;have HP:=dL hp;have HI:=dL gV;have gx:=dL hz0;have gJ:=dL hz1;have gT:=dL hz2;clear hx hr hs hp gV hz0 hz1 hz2;go_enter func64,ntmps64;go_wp2_with fail;go_loopw [10,5] (λi u wr=>∃k:Nat,i=.int .i64 k/\k<=n/\dQ wr w 1 u k (V5 (oL rs (ys.take k)))/\Below w w wr) (λi _ _=>n - (intOf i).toNat)
 case atStart=>exact ⟨0,rfl,aS _,dQ.nil_ _ _ _,aC _ _⟩
 case round=>
  obtain ⟨k,rfl,hk,hO,hb⟩:=hrel;rcases aD k n with hlt|hge
  ·obtain ⟨b,off,rfl,jW,c0,c1,c2,c3,c4,c5⟩:=yo.at_ (HX.o.below hb) (by omega:k < ys.length)
   have HT:=dL (Ln (rs:=rs) (show k < ys.length by omega));have hpx:=HP.o ys[k] (aa _);generalize V5 (oL rs (ys.take k))=L at*;generalize ys[k]=x at*;have hki:(k:Int) < (n:Int):=by omega
   obtain ⟨A2,YX,rfl⟩:=dQ.isSlice hO;have dV:=hb.alloc hb.size (.cells (ic x).toArray 44);have Qn:=dQ.alloc hO (.cells (ic x).toArray 44);have hq:=Blk.new wr 44 (ic x).toArray;obtain ⟨w1,hw1⟩:=dG (wr.alloc (.cells (ic x).toArray 44));obtain ⟨q,iC⟩:=dG wr.heap.size;rw [<-hw1] at hq dV Qn;rw [<-iC] at hq;have Xx:=dL (Li rs x.path x.dir AR nr cr w1 (HR.o.below dV) HS.o hpx);generalize jS rs x.path x.dir=m at*;have H1:dK (Ux w w1 q x):=dL ⟨dV,hq⟩;have QM:=dL Qn;have HW:=dL (show w1=wr.alloc (.cells #[x.path,x.id.1,x.id.2,x.dir,false,x.mf] 44) from hw1);have HQ:=dL iC;clear hq hb dV hw1 iC hO Qn hpx;go_upto_region 5 with (fail);rw [<-HQ.o,<-HW.o];clear c0 c1 c2 c3 c4 c5;obtain ⟨e0,e1,e2,e3,e4,e5⟩:=H1.o.cells;go_wp2_with fail;refine Xx.o.mono ?_;rintro e w2 ⟨rfl,hb⟩;have dY:=H1.o.b.trans (hb.mono H1.o.b.size);have eC:=dL (dY.alloc dY.size (.cells #[m] 4));have qL:=dL (dQ.alloc (dQ.below QM.o hb) (.cells #[m] 4));clear hb dY e0 e1 e2 e3 e4 e5 H1 QM Xx;go_wp2_with (at_builtin;refine dW _ rfl (.tmp 14) (.tmp 21) 120 120 rfl 4 i0 (.bool false) 1 underlying120 HI.o gx.o gJ.o rfl (by decide) w _ k L rfl qL.o (.slice (some w2) 1 1) rfl 1 [.bool m] ?c1 ?c3 ?c4 ?c5 ?_)
   case c1=>exact Src.one underlying120 (by simp [go_sem]) rfl
   case c3=>unfold maxLen;omega
   case c4=>rw [gT.o];omega
   case c5=>exact eC.o.size
   intro v' w5 hown hgrow fR;have zU:=dL hown;have qA:=dL (iD eC.o (aB _) eC.o.size qL.o hgrow);clear hown hgrow fR;go_wp2_with fail;exact ⟨⟨k+1,by go_num,by omega,by rw [HT.o];exact zU.o,qA.o⟩,by simp [intOf];omega⟩
  ·obtain rfl:k=n:=by omega
   have hkn:¬ (k:Int) < (k:Int):=by omega
   rw [af (by omega)] at hO;have HO:=dL hO;have HB:=dL hb;clear hO hb;go_wp2_with fail;go_ret;exact ⟨_,rfl,HO.o,HB.o⟩
def lX (p:By):Nat->Nat->List By
 |0,_=>[]
 |f+1,pos=>if pos < p.length then (if (p.getD pos 0 ==47) && decide (pos+1 < p.length) then [p.take pos] else [])++lX p f (pos+(Utf8.decode (bs p) pos).2) else []
def JN (p:By):List By:=lX p p.length 0
def qW (rs:List Rl) (ys:List It):List By:=ys.flatMap λx=>if jS rs x.path x.dir then JN x.path else []
def lY (rs:List Rl) (over:List By) (x:It):List Gi:=
 if jS rs x.path x.dir then [⟨x,false⟩] else if x.dir && decide (x.path∈over) then [⟨⟨x.path,x.id,x.dir,[]⟩,true⟩] else []
def Ej (rs:List Rl) (ys:List It):List Gi:=ys.flatMap (lY rs (qW rs ys))
def JO (l:List Gi):List Value:=l.flatMap gc
theorem Hi (a b:List Gi):JO (a++b)=JO a++JO b:=by simp [JO]
theorem XA (l:List Gi) (k j:Nat) (hk:k < l.length) (hj:j < 6):(JO l)[k*6+j]? =(gc l[k])[j]?:=by
 induction l generalizing k with
 |nil=>simp at hk
 |cons x l ih=>
  cases k with
  |zero=>
   simp only [JO,aj];rw [bY (by simp [gc];omega)];simp
  |succ k=>
   have:=ih k (by simpa using hk);simp only [JO,aj] at this ⊢;rw [bt (by simp [gc];omega)];have e:(k+1)*6+j - (gc x).length=k*6+j:=by simp [gc];omega
   rw [e,this];rfl
theorem XB (x:Gi):∀u∈gc x,u.oneCell'=true:=by intro u hu;simp [gc] at hu;rcases hu with h|h|h|h|h|h <;> subst h <;> rfl
theorem Src.gi {g c:Nat} (x:Gi) (h:Blk w g 44 (gc x).toArray):Src prog 6 40 (.slice (some g) 1 c) 1 (gc x) w:=
 Src.ofSlice w underlying40 ⟨g,0,none⟩ 1 c (gc x) rfl (λj u hu=>by
  have:(Addr.mk g 0 none).add j= ⟨g,j,none⟩:=by unfold Addr.add;split <;> simp_all
  rw [this,h.cell];simpa using hu) (XB x)
abbrev yJ (w:World) (B:Nat) (v:Value) (xs:List Gi):Prop:=dQ w B 6 v xs.length (JO xs)
theorem yJ.snoc {xs:List Gi} {x:Gi} (h:dQ w B 6 v (xs.length+1) (JO xs++gc x)):yJ w B v (xs++[x]):=by
 unfold yJ;rw [Hi,aP];simpa [JO] using h
def Pr (xs:List Gi):Prop:=∀x∈xs,x.it.path.length<=9223372036854775807/\x.it.mf.length<=9223372036854775807
theorem yJ.gis {xs:List Gi} (h:yJ w B v xs) (hs:Pr xs):∃A c,v=.slice A xs.length c/\X1 w A xs.length c xs:=by
 rcases h.2 with ⟨rfl,h0⟩| ⟨g,cap,rfl,hb,hlt,hnc,hcm,_,_,hx⟩
 ·obtain rfl:xs=[]:=az h0
  exact ⟨none,0,rfl,Sl.nil_⟩
 ·refine ⟨_,cap,rfl,rfl,hnc,by unfold maxLen at hcm;omega,λi hi=> ⟨g,0,gc xs[i],rfl,hlt,rfl,⟨rfl,hs _ (aa hi)⟩,λj u hu=>?_⟩⟩
  have hj:j < 6:=by
   rcases aD j 6 with h|h
   ·exact h
   ·rw [bD (by simp [gc];omega)] at hu;cases hu
  have:=hx (i*6+j) u (by rw [XA xs i j hi hj];exact hu);simpa using this
theorem Lo (h:k < ys.length):qW rs (ys.take (k+1))=qW rs (ys.take k)++(if jS rs ys[k].path ys[k].dir then JN ys[k].path else []):=by
 unfold qW;rw [ay h,List.flatMap_append];simp
theorem Lp {ov:List By} (h:k < ys.length):(ys.take (k+1)).flatMap (lY rs ov)=(ys.take k).flatMap (lY rs ov)++lY rs ov ys[k]:=by
 rw [ay h,List.flatMap_append];simp
theorem Pu (rs:List Rl) (ov:List By) (l:List It):(l.flatMap (lY rs ov)).length<=l.length:=by
 induction l with
 |nil=>simp
 |cons x l ih=>
  rw [aj,aP,aY];have:(lY rs ov x).length<=1:=by unfold lY;split;simp;split <;> simp
  omega
theorem Hj (s:ByteArray) (pos:Nat) (h:pos < s.size):1<=(Utf8.decode s pos).2:=by
 by_cases ha:(s[pos]'h).toNat < 128
 ·rw [decode_ascii s pos h ha]
  exact aB _
 ·exact (decode_high s pos h (by omega)).2
theorem JP (h:k < ys.length) (h2:k < (oL rs ys).length):(oL rs ys)[k]=jS rs ys[k].path ys[k].dir:=List.getElem_map _
structure R9 (w W:World) (B M q it:Nat) (x:It) (pos:Nat) (L:List By):Prop where
 b:Below B w W
 q_:Blk W q 44 (ic x).toArray
 s_:qH W M L
 i_:W.heap[it]? =some (.stringIter (bs x.path) pos)
variable {x:It} {L:List By}
theorem R9.cells {it:Nat} (h:R9 w W B M q it x pos L):W.cell? q=x.path/\W.cell? (Qc q 1)=x.id.1/\W.cell? (Qc q 2)=x.id.2/\W.cell? (Qc q 3)=x.dir/\W.cell? (Qc q 4)=false/\W.cell? (Qc q 5)=x.mf:=
 ⟨h.q_.cell 0,h.q_.cell 1,h.q_.cell 2,h.q_.cell 3,h.q_.cell 4,h.q_.cell 5⟩
theorem R9.on {it:Nat} (h:R9 w W B M q it x pos L) (hq:q≠it) (hM:M≠it) (hB:B<=it) (pos':Nat):R9 w (W.iterAt it (bs x.path) pos') B M q it x pos' L:=
 ⟨Lib.below_iterAt h.b hB _ _,(Lib.iterAt_other W it q _ _ hq).trans h.q_,h.s_.heap (Lib.iterAt_other W it M _ _ hM),Lib.iterAt_heap W it _ pos _ h.i_⟩
theorem R9.add{W':World} {it:Nat} {L':List By} (h:R9 w W B M q it x pos L) (hq:q≠M) (hi:it≠M) (hM:B<=M) (hB:B<=W.heap.size) (hs:qH W' M L') (hg:W.grownBy W' (some M)):R9 w W' B M q it x pos L':=
 ⟨eY h.b hg hM hB,h.q_.grown hg (λe=>hq (aX e)),hs,(hg.block it (by
  rcases aD it W with h1|h1
  ·exact h1
  ·have:=h.i_;rw [ax h1] at this;cases this) (λe=>hi (aX e))).trans h.i_⟩
theorem XC {x:Gi} (h:Blk w B 44 (gc x).toArray):w.cell? B=x.it.path/\w.cell? (Qc B 1)=x.it.id.1/\w.cell? (Qc B 2)=x.it.id.2/\w.cell? (Qc B 3)=x.it.dir/\w.cell? (Qc B 4)=x.ghost/\w.cell? (Qc B 5)=x.it.mf:=
 ⟨h.cell 0,h.cell 1,h.cell 2,h.cell 3,h.cell 4,h.cell 5⟩
theorem uc (rs:List Rl) (AR:Option Addr) (nr cr:Nat) (ys:List It) (A:Option Addr) (n c:Nat) (w:World) (hr:Ee w AR nr cr rs) (hs:∀x∈rs,x.txt.length<=300) (hx:yo w A n c ys) (hp:∀x∈ys,x.path.length<=1000000) (hl:ys.length<=1000):
  Calls prog 25 #[Qq A n c,Qq AR nr cr] w λe w'=>∃v,e=.returned v/\yJ w' w v (Ej rs ys)/\Below w w w':=by
 obtain ⟨i0,gV,hz0,hz1,hz2⟩:=info_parts Nv;have hn:=hx.len;have lg:=hx.max;have hle:=hx.le;have HH:=dL (Pq rs AR nr cr ys A n c w hr hs hx hp hl);have HX:=dL hx;have HP:=dL hp;have HI:=dL gV;have gx:=dL hz0;have gJ:=dL hz1;have gT:=dL hz2;clear hx hr hs hp gV hz0 hz1 hz2;have hm:=uJ;go_enter func25,ntmps25;go_wp2_with fail;refine HH.o.mono ?_;rintro e w1 ⟨v1,rfl,ho1,dV⟩;obtain ⟨Ai,ci,rfl,hBo⟩:=dQ.bos ho1 (by unfold oL;rw [bJ];exact hn.symm);have HBo:=dL hBo;have ZH:=dL (HX.o.below dV);have eR:=dL dV;have Tc:=hBo.max;have hli:=hBo.le;have acJ:(oL rs ys).length=n:=hBo.len;have HHl:=dL acJ;clear ho1 dV hBo HH HX acJ;have Mg:=dH w1 (.map #[] 0);have hSm:qH (w1.alloc (.map #[] 0)) w1 []:=Ms.SetS.new _ w1;obtain ⟨wm,hwm⟩:=dG (w1.alloc (.map #[] 0));obtain ⟨M,hM⟩:=dG w1.heap.size;rw [<-hwm] at Mg hSm;rw [<-hM] at hSm Mg;have HBm:=dL Mg;have MF:=dL hSm;have HWm:=dL hwm;have HM:=dL hM;clear Mg hSm hwm hM;go_upto_region 3 with (fail);rw [<-HM.o,<-HWm.o];clear hm;go_wp2_with fail;go_loopw [19] (λi wr=>∃k:Nat,i=.int .i64 k/\k<=n/\dK (∃L,qH wr M L/\(∀y,y∈L↔y∈qW rs (ys.take k)))/\dK (Below M w1 wr)) (λi _=>n - (intOf i).toNat)
 case atStart=>exact ⟨0,rfl,aS _,dL ⟨[],MF.o,λy=>by simp [qW]⟩,HBm⟩
 case round=>
  obtain ⟨k,rfl,hk,Hz,mK⟩:=hrel;have hMw:=HM.o;have Y8:=mK.o.size;have UR:Below w1 w1 wr:=by rw [<-hMw];exact mK.o
  rcases aD k n with hlt|hge
  ·obtain ⟨b,off,rfl,jW,c0,c1,c2,c3,c4,c5⟩:=yo.at_ (ZH.o.below UR) (by omega:k < ys.length)
   obtain ⟨bi,oi,rfl,afW,cb⟩:=Bos.at_ (HBo.o.below UR) (by rw [HHl.o];exact hlt:k < (oL rs ys).length);rw [JP (by omega:k < ys.length)] at cb;have HT:=dL (Lo (rs:=rs) (show k < ys.length by omega));have hpx:=HP.o ys[k] (aa _);generalize ys[k]=x at*;have hki:(k:Int) < (n:Int):=by omega
   have dY:=mK.o.alloc (by omega) (.cells (ic x).toArray 44);have hq:=Blk.new wr 44 (ic x).toArray;have Vd:=cell?_alloc_old cb (.cells (ic x).toArray 44);obtain ⟨L,hS,hL⟩:=Hz.o;have Y9:=hS.lt;have Md:=hS.below ((aC _ wr).alloc (aB _) (.cells (ic x).toArray 44));obtain ⟨w2,eV⟩:=dG (wr.alloc (.cells (ic x).toArray 44));obtain ⟨q,iC⟩:=dG wr.heap.size;rw [<-eV] at hq dY Vd Md;rw [<-iC] at hq;have hqM:q≠M:=by omega
   have Lt:=dL hq;have eA:=dL dY;have CQ:=dL Md;have HW:=dL (show w2=wr.alloc (.cells #[x.path,x.id.1,x.id.2,x.dir,false,x.mf] 44) from eV);have HQ:=dL iC;have HQM:=dL hqM;have HL:dK (∀y,y∈L↔y∈qW rs (ys.take k)):=dL hL;clear hq dY eV iC UR hqM hS Md hL Y9 Y8 hMw;generalize jS rs x.path x.dir=m at*;cases m with
   |false=>
    go_upto_region 6 with (fail);rw [<-HQ.o,<-HW.o];clear c0 c1 c2 c3 c4 c5 cb;go_wp2_with fail;exact ⟨⟨k+1,by go_num,by omega,dL ⟨L,CQ.o,λy=>by rw [HT.o,HL.o y];simp⟩,eA⟩,by simp [intOf];omega⟩
   |true=>
    go_upto_region 6 with (fail);rw [<-HQ.o,<-HW.o];clear c0 c1 c2 c3 c4 c5 cb;have Mi:=Lt.o;have e0:w2.cell? q=x.path:=Mi.cell 0;have Qk:(w2.alloc (.stringIter (bs x.path) 0)).heap[w2.heap.size]? =some (.stringIter (bs x.path) 0):=heap_alloc_new w2 _;have Za:R9 w1 (w2.alloc (.stringIter (bs x.path) 0)) M M q w2 x 0 L:=⟨eA.o.alloc (by have:=HM.o;have:=eA.o.size;omega) _,Mi.alloc _,CQ.o.below ((aC _ w2).alloc (aB _) _),Qk⟩;obtain ⟨w3,jD⟩:=dG (w2.alloc (.stringIter (bs x.path) 0));obtain ⟨it,hit⟩:=dG w2.heap.size;rw [<-jD,<-hit] at Za;have hqi:q≠it:=by have:=Mi.lt;omega
    have hMi:M≠it:=by have:=CQ.o.lt;omega
    have acK:M<=it:=by have:=CQ.o.lt;omega
    have Cg:=dL Za;have rB:=dL (show w3=w2.iter (bs x.path) 0 from jD);have HIt:=dL hit;have HQi:=dL hqi;have HMi:=dL hMi;have Xx:=dL acK;clear Za jD hit hqi hMi acK Qk Mi;go_upto_region 8 with (fail);rw [<-HIt.o,<-rB.o];clear e0 Vd;go_loopw [] (λws=>∃(pos f:Nat) (L':List By),dK (R9 w1 ws M M q it x pos L')/\dK (x.path.length<=pos+f)/\dK (∀y,(y∈L'\/y∈lX x.path f pos)↔(y∈L\/y∈JN x.path))) (λws=>x.path.length - ws.iterPos it)
    case atStart=>exact ⟨0,x.path.length,L,Cg,dL (by omega),dL (λy=>Iff.rfl)⟩
    case round=>
     obtain ⟨pos,f,L',Vu,HF,HLi⟩:=hrel;by_cases hps:pos < x.path.length
     ·have Hu:pos < (bs x.path).size:=by rw [dR];exact hps
      obtain ⟨f,rfl⟩:∃f0,f=f0+1:=⟨f - 1,by have:=HF.o;omega⟩;have afv:=Hj (bs x.path) pos Hu;have FU:∀ty,(Instr.next (.pointer (some it)) true ty).run prog wr=_:=λty=>Lib.run_next_any_at wr it (bs x.path) pos ty Vu.o.i_ Hu
      have Zb:=Vu.o.on HQi.o HMi.o Xx.o (pos+(Utf8.decode (bs x.path) pos).2);have hli:∀y,y∈lX x.path (f+1) pos↔(y∈(if (x.path.getD pos 0 ==47) && decide (pos+1 < x.path.length) then [x.path.take pos] else [])\/y∈lX x.path f (pos+(Utf8.decode (bs x.path) pos).2)):=λy=>by
       rw [lX,if_pos hps,aq]
      generalize (Utf8.decode (bs x.path) pos).1=rn at*;generalize (Utf8.decode (bs x.path) pos).2=wd at*;obtain ⟨w5,iB⟩:=dG (wr.iterAt it (bs x.path) (pos+wd));rw [<-iB] at FU Zb;have Ve:=dL Zb;have YA:dK (∀y,y∈lX x.path (f+1) pos↔(y∈(if (x.path.getD pos 0 ==47) && decide (pos+1 < x.path.length) then [x.path.take pos] else [])\/y∈lX x.path f (pos+wd))):=dL hli;have YB:dK (∀y,(y∈L'\/y∈lX x.path (f+1) pos)↔(y∈L\/y∈JN x.path)):=HLi;obtain ⟨e0,-⟩:=Ve.o.cells;have hpi:(pos:Int) < (x.path.length:Int):=by omega
      have hgd:x.path.getD pos 0=(x.path[pos]'hps):=by rw [List.getD_eq_getElem?_getD,bh hps];rfl
      have RM:dK (x.path.length<=pos+wd+f):=dL (by have:=HF.o;omega);have HPx:dK (x.path.length<=1000000):=dL hpx;have YC:dK (x.path.length - w5.iterPos it < x.path.length - wr.iterPos it):=dL (by
       have h1:w5.iterPos it=pos+wd:=by unfold World.iterPos;rw [Ve.o.i_]
       have h2:wr.iterPos it=pos:=by unfold World.iterPos;rw [Vu.o.i_]
       omega)
      clear Zb iB hli HLi Vu HF afv Hu hpx;cases RU:(x.path.getD pos 0 ==47) with
      |false=>
       have d47:((((x.path[pos]'hps)).toNat:Int) ==47)=false:=by
        rw [hgd] at RU;rw [beq_eq_false_iff_ne] at RU ⊢;intro e;exact RU (UInt8.toNat.inj (by show _=47;omega))
       rw [RU] at YA;clear RU hgd;go_wp2_with fail;exact ⟨⟨pos+wd,f,L',Ve,RM,dL (λy=>by rw [<-YB.o y,YA.o y];simp)⟩,YC.o⟩
      |true=>
       have d47:((((x.path[pos]'hps)).toNat:Int) ==47)=true:=by
        rw [hgd] at RU;rw [beq_iff_eq] at RU ⊢;rw [RU];rfl
       rw [RU] at YA;clear RU hgd;have hwr:IntKind.i64.wrap ((pos:Int)+1)=(pos:Int)+1:=IntWalk.i64_in _ (by have:=HPx.o;omega);cases Zg:decide (pos+1 < x.path.length) with
       |false=>
        have dlt:decide ((pos:Int)+1 < (x.path.length:Int))=false:=decide_eq_false (by have:=of_decide_eq_false Zg;omega);rw [Zg] at YA;clear Zg;go_wp2_with fail;exact ⟨⟨pos+wd,f,L',Ve,RM,dL (λy=>by rw [<-YB.o y,YA.o y];simp)⟩,YC.o⟩
       |true=>
        have dlt:decide ((pos:Int)+1 < (x.path.length:Int))=true:=decide_eq_true (by have:=of_decide_eq_true Zg;omega);rw [Zg] at YA;clear Zg;have hx2:(bs x.path).extract 0 pos=bs (x.path.take pos):=by
         rw [fM];simp
        obtain ⟨w6,e6,hS6,hg6,hs6⟩:=Ms.SetS.add zD Ve.o.s_ (x.path.take pos);have hP6:=Ve.o.add HQM.o HMi.o.symm (aB _) (by have:=Ve.o.s_.lt;omega) hS6 hg6;have HP6:=dL hP6;have afw:dK (x.path.length - w6.iterPos it < x.path.length - wr.iterPos it):=dL (by
         have h1:w5.iterPos it=pos+wd:=by unfold World.iterPos;rw [Ve.o.i_]
         have h2:w6.iterPos it=pos+wd:=by unfold World.iterPos;rw [HP6.o.i_]
         have:=YC.o;omega)
        clear hS6 hg6 hs6 hP6;go_wp2_with fail;exact ⟨⟨pos+wd,f,x.path.take pos :: L',HP6,RM,dL (λy=>by rw [<-YB.o y,YA.o y];simp only [aQ,Bool.and_true,if_true,or_assoc];constructor <;> (rintro (h|h|h) <;> simp_all))⟩,afw.o⟩
     ·have FU:∀ty,(Instr.next (.pointer (some it)) true ty).run prog wr=_:=λty=>Lib.run_next_end_at wr it (bs x.path) pos ty Vu.o.i_ (by rw [dR];exact hps)
      have fk:dK (Below M w1 wr):=dL Vu.o.b;have yt:dK (qH wr M L'):=dL Vu.o.s_;have ZI:dK (∀y,y∈L'↔y∈qW rs (ys.take (k+1))):=dL (λy=>by
       have h1:=HLi.o y;have h2:lX x.path f pos=[]:=by cases f with
        |zero=>rfl
        |succ f=>rw [lX,if_neg hps]
       rw [h2] at h1;rw [HT.o,aq,<-HL.o y];simpa using h1)
      clear Vu HLi HF hps hpx;go_wp2_with fail;exact ⟨⟨k+1,by go_num,by omega,dL ⟨L',yt.o,ZI.o⟩,fk⟩,by simp [intOf];omega⟩
  ·obtain rfl:k=n:=by omega
   have hkn:¬ (k:Int) < (k:Int):=by omega
   rw [af (by omega)] at Hz;obtain ⟨LO,hS,hLO⟩:=Hz.o;have HS:=dL hS;have ZW:dK (∀y,y∈LO↔y∈qW rs ys):=dL hLO;have agM:=dL Y8;clear hS hLO Hz hge hk UR Y8;obtain ⟨ov,Te⟩:=dG (qW rs ys);rw [<-Te] at ZW;have HOv:=dL Te;clear Te;have HMw:=dL hMw;clear hMw;go_wp2_with fail;go_loopw [10,56] (λu i ws=>∃j:Nat,i=.int .i64 j/\j<=k/\dK (yJ ws (M+1) u ((ys.take j).flatMap (lY rs ov)))/\dK (qH ws M LO)/\dK (Below M w1 ws)) (λ_ i _=>k - (intOf i).toNat)
   case atStart=>exact ⟨0,rfl,aS _,dL (dQ.nil_ _ _ _),HS,mK⟩
   case round=>
    clear HS mK;obtain ⟨j,rfl,hj,HO,HS,HBj⟩:=hrel;have afx:=HBj.o.size;have Qo:Below w1 w1 wr:=by rw [<-HMw.o];exact HBj.o
    rcases aD j k with hlt|hge
    ·obtain ⟨b,off,rfl,jW,c0,c1,c2,c3,c4,c5⟩:=yo.at_ (ZH.o.below Qo) (by omega:j < ys.length)
     obtain ⟨bi,oi,rfl,afW,cb⟩:=Bos.at_ (HBo.o.below Qo) (by rw [HHl.o];exact hlt:j < (oL rs ys).length);rw [JP (by omega:j < ys.length)] at cb;have HT:=dL (Lp (rs:=rs) (ov:=ov) (show j < ys.length by omega));have HK:dK (lY rs ov ys[j]=if jS rs ys[j].path ys[j].dir then [⟨ys[j],false⟩] else if ys[j].dir && decide (ys[j].path∈ov) then [⟨⟨ys[j].path,ys[j].id,ys[j].dir,[]⟩,true⟩] else []):=dL rfl;have hkl:=Pu rs ov (ys.take j);rw [aR] at hkl;have ZG:=dL (show ((ys.take j).flatMap (lY rs ov)).length<=1000 by omega);generalize (ys.take j).flatMap (lY rs ov)=G at*;generalize ys[j]=x at*;have hki:(j:Int) < (k:Int):=by omega
     have hlk:=HS.o.look zD x.path;have hmem:decide (x.path∈LO)=decide (x.path∈ov):=decide_eq_decide.2 (ZW.o _);rw [hmem] at hlk;generalize decide (x.path∈ov)=md at*;generalize jS rs x.path x.dir=m at*;obtain ⟨A2,YX,rfl⟩:=dQ.isSlice HO.o;have dY:=HBj.o.alloc (by have:=HMw.o;omega) (.cells (ic x).toArray 44);have hq:=Blk.new wr 44 (ic x).toArray;have RD:=dQ.alloc HO.o (.cells (ic x).toArray 44);have Md:=HS.o.below ((aC _ wr).alloc (aB _) (.cells (ic x).toArray 44));have Y9:=HS.o.lt;obtain ⟨w2,eV⟩:=dG (wr.alloc (.cells (ic x).toArray 44));obtain ⟨q,iC⟩:=dG wr.heap.size;have Vd:=cell?_alloc_old cb (.cells (ic x).toArray 44);rw [<-eV] at hq dY Vd Md RD;rw [<-iC] at hq;have Xa:bi≠q:=by have:=eB cb;omega
     have jG:=hq.set_ 4 (.bool (!m));have g4:=hq.frozen 4;have dn:Below M w1 (w2.setCell (Qc q 4) (!m)):=dY.setCell (p:=Qc q 4) (by show M<=q;omega) _;have Mj:qH (w2.setCell (Qc q 4) (!m)) M LO:=Md.heap (bU w2 ⟨q,4,none⟩ _ M (by show M≠q;omega));have oM:dQ (w2.setCell (Qc q 4) (!m)) (M+1) 6 (.slice A2 G.length YX) G.length (JO G):=dQ.apart RD (g:=q) (λe=>by have:=(dQ.ge HO.o q e).2;omega) _ _;have cb3:(w2.setCell (Qc q 4) (!m)).cell? ⟨bi,oi+j,none⟩=m:=by rw [aM (a:=⟨bi,oi+j,none⟩) (bU w2 ⟨q,4,none⟩ _ bi Xa)];exact Vd
     simp only [ic,aH,aF,aG] at jG;obtain ⟨w3,jD⟩:=dG (w2.setCell (Qc q 4) (!m));rw [<-jD] at jG dn Mj oM cb3;have nC:dK (Blk w3 q 44 (gc ⟨x,!m⟩).toArray):=dL jG;have eC:=dL dn;have B8:=dL Mj;have qL:=dL oM;have acL:=dL cb3;have HW:=dL (show w2=wr.alloc (.cells #[x.path,x.id.1,x.id.2,x.dir,false,x.mf] 44) from eV);have HQ:=dL iC;have rB:=dL jD;have HMq:=dL (show M≠q by omega);have afy:=dL (show M<=q by omega);have fG:=dL Xa;have Lt:=dL hq;have HOq:dK ((Value.slice A2 G.length YX).ownBlock≠some q):=dL (λe=>by have:=(dQ.ge HO.o q e).2;omega);have yZ:=dL hmem;clear jG dn Mj oM cb3 eV iC jD hq dY RD Md Y9 Xa afx Qo hmem hlk;have e4:=Lt.o.cell 4;simp only [ic,aO,aT,aZ] at e4;have US:dK (M<=w3.heap.size):=dL (by have:=B8.o.lt;omega);have Vf:dK (M+1<=w3.heap.size):=dL (by have:=B8.o.lt;omega);cases m with
     |true=>
      have rB:dK (w3=w2.setCell (Qc q 4) false):=rB;have HK:dK (lY rs ov x=[⟨x,false⟩]):=dL (by rw [HK.o];rfl);go_upto_region 17 with (fail);rw [<-HQ.o,<-HW.o];clear c0 c1 c2 c3 c4 c5 cb;go_upto_region 18 with (fail);rw [<-rB.o];clear e4 g4 Vd;have cb3:=acL.o;obtain ⟨a0,a1,a2,a3,a4,a5⟩:=XC nC.o;have rI:=dL (dQ.alloc qL.o (.cells (gc ⟨x,false⟩).toArray 44));have fI:=dL (eC.o.alloc US.o (.cells (gc ⟨x,false⟩).toArray 44));have Qm:=dL (B8.o.below ((aC _ w3).alloc (aB _) (.cells (gc ⟨x,false⟩).toArray 44)));go_wp2_with (at_builtin;refine dW _ rfl (.tmp 84) (.tmp 86) 40 40 rfl 44 i0 (.agg #[yj,qn,qn,false,false,yj]) 6 underlying40 HI.o gx.o gJ.o rfl (by decide) (M+1) _ G.length (JO G) rfl rI.o (.slice (some w3) 1 1) rfl 1 (gc ⟨x,false⟩) ?c1 ?c3 ?c4 ?c5 ?_)
      case c1=>exact Src.gi ⟨x,false⟩ (Blk.new _ _ _)
      case c3=>have:=ZG.o;unfold maxLen;omega
      case c4=>have:=ZG.o;rw [gT.o];omega
      case c5=>have:=Vf.o;simp;omega
      intro v' w5 hown hgrow fR;have zU:=dL (yJ.snoc hown);have qA:=dL (iD fI.o (bF _) (aI US.o (by simp)) rI.o hgrow);have Qp:=dL (Qm.o.grown hgrow (λe=>by have:=(dQ.ge rI.o _ e.symm).1;omega));clear hown hgrow fR;go_wp2_with fail;exact ⟨⟨j+1,by go_num,by omega,dL (by rw [HT.o,HK.o];exact zU.o),Qp,qA⟩,by simp [intOf];omega⟩
     |false=>
      have rB:dK (w3=w2.setCell (Qc q 4) true):=rB;have HK:dK (lY rs ov x=if x.dir && md then [⟨⟨x.path,x.id,x.dir,[]⟩,true⟩] else []):=dL (by rw [HK.o];rfl);have jG:=nC.o;have g5:=jG.frozen 5;have e4':=jG.cell 4;have e5':=jG.cell 5;simp only [gc,Bool.not_false,aO,aT,aZ] at e4' e5';have sQ:=jG.set_ 5 (.string ⟨#[]⟩);simp only [gc,Bool.not_false,aH,aF,aG] at sQ;have acM:=fG.o;have cb4:(w3.setCell (Qc q 5) yj).cell? ⟨bi,oi+j,none⟩=false:=by rw [aM (a:=⟨bi,oi+j,none⟩) (bU w3 ⟨q,5,none⟩ _ bi acM)];exact acL.o
      have hb4:Below M w1 (w3.setCell (Qc q 5) yj):=eC.o.setCell (p:=Qc q 5) afy.o _;have UT:qH (w3.setCell (Qc q 5) yj) M LO:=B8.o.heap (bU w3 ⟨q,5,none⟩ _ M HMq.o);have nJ:dQ (w3.setCell (Qc q 5) yj) (M+1) 6 (.slice A2 G.length YX) G.length (JO G):=dQ.apart qL.o (g:=q) (λe=>by have:=HOq.o;exact this e) _ _;have vP:(w3.setCell (Qc q 5) yj).heap.size=w3.heap.size:=by simp [World.setCell]
      obtain ⟨w4,rE⟩:=dG (w3.setCell (Qc q 5) yj);rw [<-rE] at sQ cb4 hb4 UT nJ vP;have B9:dK (Blk w4 q 44 (gc ⟨⟨x.path,x.id,x.dir,[]⟩,true⟩).toArray):=dL sQ;have acN:=dL cb4;have fI:=dL hb4;have Qm:=dL UT;have rI:=dL nJ;have HW4:=dL rE;have IF:=dL vP;have hlk:=Qm.o.look zD x.path;rw [yZ.o] at hlk;clear jG sQ acM cb4 hb4 UT nJ rE vP;cases hdm:(x.dir && md) with
      |false=>
       rw [hdm] at HK;have afz:x.dir=false\/(x.dir=true/\md=false):=by cases hh:x.dir <;> cases md <;> simp_all
       rcases afz with hd| ⟨hd,rfl⟩
       all_goals
        have HD:=dL hd;clear hdm hd;go_upto_region 17 with (fail);rw [<-HQ.o,<-HW.o];clear c0 c1 c2 c3 c4 c5 cb;go_upto_region 18 with (fail);rw [<-rB.o];clear e4 g4 Vd;go_upto_region 20 with (fail);rw [<-HW4.o];clear e4' e5' g5;have cb4:=acN.o;obtain ⟨a0,a1,a2,a3,a4,a5⟩:=XC B9.o;dsimp only at a0 a1 a2 a3 a4 a5;rw [HD.o] at a3;go_wp2_with fail;exact ⟨⟨j+1,by go_num,by omega,dL (by rw [HT.o,HK.o];simpa using rI.o),Qm,fI⟩,by simp [intOf];omega⟩
      |true=>
       rw [hdm] at HK;obtain ⟨hd,rfl⟩:x.dir=true/\md=true:=by simpa using hdm
       have HD:=dL hd;clear hdm hd;go_upto_region 17 with (fail);rw [<-HQ.o,<-HW.o];clear c0 c1 c2 c3 c4 c5 cb;go_upto_region 18 with (fail);rw [<-rB.o];clear e4 g4 Vd;go_upto_region 20 with (fail);rw [<-HW4.o];clear e4' e5' g5;have cb4:=acN.o;obtain ⟨a0,a1,a2,a3,a4,a5⟩:=XC B9.o;dsimp only at a0 a1 a2 a3 a4 a5;have HG:dK (gc ⟨⟨x.path,x.id,x.dir,[]⟩,true⟩=[.string (bs x.path),.int .i64 x.id.1,.int .i64 x.id.2,.bool true,.bool true,.string (bs [])]):=dL (by simp only [gc];rw [HD.o]);rw [HD.o] at a3;have sn:=dL (dQ.alloc rI.o (.cells (gc ⟨⟨x.path,x.id,x.dir,[]⟩,true⟩).toArray 44));have fk:=dL (fI.o.alloc (by rw [IF.o];exact US.o) (.cells (gc ⟨⟨x.path,x.id,x.dir,[]⟩,true⟩).toArray 44));have yt:=dL (Qm.o.below ((aC _ w4).alloc (aB _) (.cells (gc ⟨⟨x.path,x.id,x.dir,[]⟩,true⟩).toArray 44)));have RS:dK (Src prog 6 40 (.slice (some w4) 1 1) 1 (gc ⟨⟨x.path,x.id,x.dir,[]⟩,true⟩) (w4.alloc (.cells (gc ⟨⟨x.path,x.id,x.dir,[]⟩,true⟩).toArray 44))):=dL (Src.gi ⟨⟨x.path,x.id,x.dir,[]⟩,true⟩ (Blk.new _ _ _));rw [HG.o] at sn fk yt RS;go_wp2_with (at_builtin;refine dW _ rfl (.tmp 84) (.tmp 86) 40 40 rfl 44 i0 (.agg #[yj,qn,qn,false,false,yj]) 6 underlying40 HI.o gx.o gJ.o rfl (by decide) (M+1) _ G.length (JO G) rfl sn.o (.slice (some w4) 1 1) rfl 1 [.string (bs x.path),.int .i64 x.id.1,.int .i64 x.id.2,.bool true,.bool true,.string (bs [])] ?c1 ?c3 ?c4 ?c5 ?_)
       case c1=>exact RS.o
       case c3=>have:=ZG.o;unfold maxLen;omega
       case c4=>have:=ZG.o;rw [gT.o];omega
       case c5=>have:=Vf.o;have:=IF.o;simp;omega
       intro v' w5 hown hgrow fR;rw [<-HG.o] at hown;have zU:=dL (yJ.snoc hown);have qA:=dL (iD fk.o (bF _) (aI (by rw [IF.o];exact US.o:M<=w4.heap.size) (by simp)) sn.o hgrow);have Qp:=dL (yt.o.grown hgrow (λe=>by have:=(dQ.ge sn.o _ e.symm).1;omega));clear hown hgrow fR;go_wp2_with fail;exact ⟨⟨j+1,by go_num,by omega,dL (by rw [HT.o,HK.o];exact zU.o),Qp,qA⟩,by simp [intOf];omega⟩
    ·obtain rfl:j=k:=by omega
     have hkn:¬ (j:Int) < (j:Int):=by omega
     rw [af (by omega)] at HO;have YD:=HO.o;have e9:ys.flatMap (lY rs ov)=Ej rs ys:=by unfold Ej;rw [<-HOv.o]
     rw [e9] at YD;have UU:=dL (dQ.mono (B':=w.heap.size) YD (by have:=HMw.o;have:=eR.o.size;omega));clear YD;have HBf:=dJ eR Qo;clear HO HBj Qo;go_wp2_with fail;go_ret;exact ⟨_,rfl,UU.o,HBf.o⟩
def Ek (xs:List dX) (s:dX):Nat:=(xs.findIdx? λz=>di s.st z.st).getD xs.length
def vK (xs:List dX) (s:dX):List dX:=xs.take (Ek xs s)++s :: xs.drop (Ek xs s)
theorem Pv (xs:List dX) (s:dX):Ek xs s<=xs.length:=by
 unfold Ek;cases h:xs.findIdx? λz=>di s.st z.st with
 |none=>exact aB _
 |some k=>
  obtain ⟨hk,_⟩:=au.1 h;exact ag hk
theorem Pw (xs:List dX) (s:dX):(vK xs s).length=xs.length+1:=by have:=Pv xs s;simp [vK];omega
theorem B6 (xs:List dX) (s:dX):(vK xs s).Perm (s :: xs):=by
 unfold vK;have h:=List.perm_middle (a:=s) (l₁:=xs.take (Ek xs s)) (l₂:=xs.drop (Ek xs s))
 rwa [bV] at h
variable {xs:List dX}
theorem El {s:dX} (h:gQ xs) (hn:∀y∈xs,y.st≠s.st):gQ (vK xs s):=by
 have hb:∀y∈xs.take (Ek xs s),di s.st y.st=false:=by
  intro y hy;unfold Ek at hy;cases hf:xs.findIdx? λz=>di s.st z.st with
  |none=>
   rw [hf] at hy;exact bK.1 hf y (cS hy)
  |some k=>
   rw [hf] at hy;obtain ⟨hk,hp,ha⟩:=au.1 hf;obtain ⟨j,hj,rfl⟩:=List.getElem_of_mem hy;simp only [bw,aR] at hj;rw [List.getElem_take];have:=ha j (by omega);simpa using this
 have hd:∀y∈xs.drop (Ek xs s),di s.st y.st=true:=by
  intro y hy;unfold Ek at hy;cases hf:xs.findIdx? λz=>di s.st z.st with
  |none=>rw [hf] at hy;simp at hy
  |some k=>
   rw [hf] at hy;obtain ⟨hk,hp,ha⟩:=au.1 hf;obtain ⟨j,hj,rfl⟩:=List.getElem_of_mem hy;simp only [bw,ah] at hj;rw [List.getElem_drop];simp only [bw];cases j with
   |zero=>exact hp
   |succ j=>exact jk hp (h.at_ hk (by omega) (by omega))
 unfold vK gQ;have hp:(xs.take (Ek xs s)++xs.drop (Ek xs s)).Pairwise λa b=>di a.st b.st=true:=by rw [bV];exact h
 rw [List.pairwise_append] at hp ⊢;obtain ⟨p1,p2,p3⟩:=hp;have Hy:∀a∈xs.take (Ek xs s),di a.st s.st=true:=λa ha=>nW (hb a ha) (λe=>hn a (cS ha) e.symm)
 refine ⟨p1,cU.2 ⟨hd,p2⟩,λa ha b dY=>?_⟩;rcases aQ.1 dY with rfl|dY
 ·exact Hy a ha
 ·exact p3 a ha b dY
theorem Hl (xs:List dX) (s:dX):(∃k:Nat,gR (λz=>di s.st z.st) xs=k/\Ek xs s=k/\k<=xs.length)\/(gR (λz=>di s.st z.st) xs= -1/\Ek xs s=xs.length):=by
 have:=Pv xs s;unfold gR Ek at*;cases h:xs.findIdx? λz=>di s.st z.st with
 |none=>exact .inr ⟨rfl,rfl⟩
 |some k=>rw [h] at this;exact .inl ⟨k,rfl,rfl,this⟩
theorem Px (xs:List dX) (k:Nat):iw (xs.take k)=(iw xs).take (k*11):=by
 rcases aD k xs.length with h|h
 ·have e:iw xs=iw (xs.take k)++iw (xs.drop k):=by rw [<-ng,bV]
  rw [e,List.take_left' (by rw [pX,aR];congr 1;omega)]
 ·rw [af h,af (by rw [pX];omega)]
theorem Py (xs:List dX) (k:Nat):iw (xs.drop k)=(iw xs).drop (k*11):=by
 rcases aD k xs.length with h|h
 ·have e:iw xs=iw (xs.take k)++iw (xs.drop k):=by rw [<-ng,bV]
  rw [e,List.drop_left' (by rw [pX,aR];congr 1;omega)]
 ·rw [cw h,cw (by rw [pX];omega)];rfl
theorem js {y:dX} (hn:xs.length=n) (hk:k<=n) (h:dQ w B 11 v (n+1) ((iw xs).take (k*11)++(oc y++(iw xs).drop (k*11)))):gU w B v (xs.take k++y :: xs.drop k):=by
 unfold gU;have e:iw (xs.take k++y :: xs.drop k)=(iw xs).take (k*11)++(oc y++(iw xs).drop (k*11)):=by
  rw [ng,<-Px];congr 1;rw [<-Py];simp [iw]
 rw [e];have:(xs.take k++y :: xs.drop k).length=n+1:=by simp;omega
 rw [this];exact h
structure iA (B:Nat) (w w':World) (S:Nat) (v:Value) (xs:List dX):Prop where
 own0:gU w' S v xs
 below:Below B w w'
 le:B<=w'.heap.size
 leS:B<=S
theorem iA.own (h:iA B w w' S v xs):gU w' B v xs:=h.own0.mono h.leS
theorem iA.ne_new (h:iA B w w' S v xs):v.ownBlock≠some w'.heap.size:=λe=>by
 have:=(h.own0.ge _ e).2;omega
theorem iA.ne_at (h:iA B w w' S v xs) (hq:q < S):v.ownBlock≠some q:=λe=>by
 have:=(h.own0.ge _ e).1;omega
theorem iA.fin (h:iA B w w' S v xs) (hg:w'.grownBy w4 v.ownBlock):Below B w w4:=iD h.below h.leS h.le h.own0 hg
theorem iA.fin_alloc {o:Obj} (h:iA B w w' S v xs) (hg:(w'.alloc o).grownBy w4 v.ownBlock):Below B w w4:=
 iD (h.below.alloc h.le o) h.leS (aI h.le (by simp)) (h.own0.alloc o) hg
def abd (s:dX) (A:Option Addr) (n c:Nat) (xs:List dX) (w:World) (e:Ending) (w':World):Prop:=
 Below w w w'/\((∃r:Int,r≠0/\e=.returned (.tuple #[(),r]))\/e=.returned (.tuple #[Qq A n c,qn])\/
  (∃v,e=.returned (.tuple #[v,qn])/\gU w' w v (vK xs s)/\sG s=0/\∀y∈xs,y.st≠s.st))
theorem Be (s:dX) (hs:Ir s) (A:Option Addr) (n c:Nat) (xs:List dX) (w:World) (hx:mR w A n c xs) (hm:n<=100):
  Calls prog 19 #[Qq A n c,ov s] w (abd s A n c xs w):=by
 have hn:=hx.len;have dV:=dH w (.cells (oc s).toArray 32);have hB:=Blk.new w 32 (oc s).toArray;have hx1:=hx.below dV;obtain ⟨w1,hw1⟩:=dG (w.alloc (.cells (oc s).toArray 32));obtain ⟨B,uo⟩:=dG w.heap.size;rw [<-hw1] at hB dV hx1;rw [<-uo] at hB dV;have mK:=dL hB;have HW:=dL (dN (x:=s) hw1);have HX:=dL hx1;have HB:=dL dV;have rG:=dL uo;have hsz:B<=w1.heap.size:=by have:=hB.lt;omega
 have zV:=dL hsz;have HS:=dL hs;have HR:=dL (λw=>lM s hs.1 hs.2 w);have hd4:decide ((n:Int)≥400)=false:=decide_eq_false (by omega);obtain ⟨rc,hrc⟩:=dG (sG s);rw [<-hrc] at HR;have HRc:=dL hrc;unfold abd;rw [<-uo];clear hw1 hx1 dV hB hx uo hsz hs hrc;have HC:=dL (λw' (hb:Below w1 w1 w')=>Hh s A n c xs w' (HX.o.below hb));have HF:=dL (λw' (hb:Below w1 w1 w')=>Pp s A n c xs w' (HX.o.below hb));unfold ov at HR HC HF ⊢;by_cases Ua:rc=0
 case neg=>
  have hne:(rc != 0)=true:=by rw [bne_iff_ne];exact Ua
  have wE:=dL Ua;clear Ua;go_enter func19,ntmps19;go_upto_region 1 with (fail);rw [<-HW.o,<-rG.o];obtain ⟨q0,q1,q2,q3,q4,q5,q6,q7,q8,q9,qE⟩:=dx mK.o;go_wp2_with fail;refine (HR.o _).mono ?_;rintro e w2 ⟨rfl,hb⟩;have eA:=dL (HB.o.trans (hb.mono zV.o));clear hb q0 q1 q2 q3 q4 q5 q6 q7 q8 q9 qE;go_wp2_with fail;go_ret2;exact ⟨eA.o,.inl ⟨rc,wE.o,rfl⟩⟩
 subst Ua;go_enter func19,ntmps19;go_upto_region 1 with (fail);rw [<-HW.o,<-rG.o];obtain ⟨q0,q1,q2,q3,q4,q5,q6,q7,q8,q9,qE⟩:=dx mK.o;go_wp2_with fail;refine (HR.o _).mono ?_;rintro e w2 ⟨rfl,dY⟩;have eA:=dL dY;clear dY q0 q1 q2 q3 q4 q5 q6 q7 q8 q9 qE;obtain ⟨q0,q1,q2,q3,q4,q5,q6,q7,q8,q9,qE⟩:=dx (mK.o.below eA.o mK.o.lt);go_wp2_with fail;refine (HC.o _ eA.o).mono ?_;rintro e w3 ⟨r,rfl,dn⟩;have eC:=dJ eA dn;clear dn q0 q1 q2 q3 q4 q5 q6 q7 q8 q9 qE eA;cases r with
 |true=>
  go_wp2_with fail;go_ret2;exact ⟨HB.o.trans (eC.o.mono zV.o),.inr (.inl rfl)⟩
 |false=>
 obtain ⟨q0,q1,q2,q3,q4,q5,q6,q7,q8,q9,qE⟩:=dx (mK.o.below eC.o mK.o.lt);go_wp2_with fail;refine (HF.o _ eC.o).mono ?_;rintro e w4 ⟨r,rfl,hr,hb4⟩;have fI:=dJ eC hb4;have XY:dK (r=0->∀y∈xs,y.st≠s.st):=dL hr;clear hb4 hr q0 q1 q2 q3 q4 q5 q6 q7 q8 q9 qE eC;by_cases XP:r=0
 case neg=>
  have hne:(r != 0)=true:=by rw [bne_iff_ne];exact XP
  have wE:=dL XP;clear XP;go_wp2_with fail;go_ret2;exact ⟨HB.o.trans (fI.o.mono zV.o),.inl ⟨r,wE.o,rfl⟩⟩
 subst XP;have wE:=dL (XY.o rfl);clear XY;have B9:=dL (mK.o.below fI.o mK.o.lt);have UO:=dL (HX.o.below fI.o);have HI:=dL (Ei B s A n c xs w4 UO.o B9.o);have fk:=dL (HB.o.trans (fI.o.mono zV.o));have Hs:=dL (aI zV.o fI.o.size);clear HC HF HR mK HX HB fI HW;have fin:∀(k:Nat) (w':World) (v:Value),Ek xs s=k->gU w' B v (xs.take k++s :: xs.drop k)->Below B w w'->∃v',Ending.returned (.tuple #[v,qn])=.returned (.tuple #[v',qn])/\gU w' B v' (vK xs s)/\sG s=0/\∀y∈xs,y.st≠s.st:=λk w' v hk ho hb=>
  ⟨v,rfl,by unfold vK;rw [hk];exact ho,HRc.o.symm,wE.o⟩
 have UU:=dL fin;clear fin;rcases Hl xs s with ⟨k,iU,hak,hkl⟩| ⟨iU,hak⟩
 all_goals
  rw [iU] at HI;have HAk:=dL hak;clear hak iU
 ·have QD:decide ((k:Int) < 0)=false:=decide_eq_false (by omega)
  go_wp2_with fail;refine HI.o.mono ?_;rintro e w5 ⟨rfl,ef⟩;have jt:=dL (fk.o.trans (ef.mono Hs.o));have HQ:=dL (Blk.below B9.o ef (Blk.lt B9.o));have nB:=dL (UO.o.below ef);have yR:=aI Hs.o ef.size;have iz:=dL yR;have HN:=dL (show n<=1000000 by omega);have HL:=dL (show xs.length<=1000000 by omega);have yw:=dL hkl;clear ef yR hm hn hkl;go_wp2_with fail;go_region_held3 (λw'=>w'.cell? B=s.st.1/\w'.cell? (Qc B 1)=s.st.2/\w'.cell? (Qc B 2)=s.seq/\w'.cell? (Qc B 3)=s.kind/\w'.cell? (Qc B 4)=s.node.1/\w'.cell? (Qc B 5)=s.node.2/\w'.cell? (Qc B 6)=s.dir/\w'.cell? (Qc B 7)=s.par.1/\w'.cell? (Qc B 8)=s.par.2/\w'.cell? (Qc B 9)=s.nm/\w'.cell? (Qc B 10)=s.mf)
   (with_reducible first|exact dx qD.o|exact dx oE.o|exact dx (Blk.alloc oE.o _)|exact dx (Blk.drew HQ.o)|exact dx (Blk.drew (Blk.alloc HQ.o _))|exact dx (Blk.alloc (Blk.drew HQ.o) _)|exact dx (Blk.alloc HQ.o _)|exact dx HQ.o)
   (first
    |(go_at_call 62;refine (vv A n c xs _ (nB.o.below (aC _ _).drew) HN.o).mono ?_;rintro e w6 ⟨v,rfl,oM,dn⟩;obtain ⟨A3,c3,rfl⟩:=dQ.isSlice oM;have oE:=dL (Blk.below (Blk.drew HQ.o) dn (Blk.lt HQ.o));have HC:=dL (iA.mk (B:=B) (w:=w) oM (jt.o.drew.trans (dn.mono iz.o)) (aI iz.o dn.size) iz.o);have Hv:=dL (Blk.lt HQ.o);clear oM dn)
    |(go_at_call 62;refine (vv A n c xs _ (nB.o.below ((aC _ _).alloc (aB _) _).drew) HN.o).mono ?_;rintro e w6 ⟨v,rfl,oM,dn⟩;obtain ⟨A3,c3,rfl⟩:=dQ.isSlice oM;have oE:=dL (Blk.below (Blk.drew (Blk.alloc HQ.o _)) dn (aN (Blk.lt HQ.o) (by simp)));have HC:=dL (iA.mk (B:=B) (w:=w) oM ((jt.o.alloc iz.o _).drew.trans (dn.mono (aI iz.o (by simp)))) (aI iz.o (aI (by simp) dn.size)) (aI iz.o (by simp)));have HV:=dL (Blk.below (Blk.drew (Blk.new w5 32 (oc s).toArray)) dn (by simp));have Hv:=dL (aN (Blk.lt HQ.o) (by simp:w5.heap.size<=(w5.alloc (.cells (oc s).toArray 32)).drew.heap.size));clear oM dn)
    |(go_at_call 61;refine (kW B _ xs.length k (iw xs) (oc s) _ 1 _ HC.o.own HL.o yw.o rfl (ni xs) (xW s) HV.o (HC.o.ne_at (by simp)) HC.o.le).mono ?_;rintro e w7 ⟨v4,rfl,nJ,hg4,_⟩;have qD:=dL (Blk.grown oE.o hg4 (λe=>HC.o.ne_at Hv.o e.symm));have HF:=dL (And.intro (js rfl yw.o nJ) (HC.o.fin hg4));clear nJ hg4)
    |(go_at_call 61;refine (kW B _ xs.length k (iw xs) (oc s) _ 1 _ (HC.o.own.alloc _) HL.o yw.o rfl (ni xs) (xW s) (Blk.new _ 32 (oc s).toArray) HC.o.ne_new (aI HC.o.le (by simp))).mono ?_;rintro e w7 ⟨v4,rfl,nJ,hg4,_⟩;have qD:=dL (Blk.grown (Blk.alloc oE.o _) hg4 (λe=>HC.o.ne_at Hv.o e.symm));have HF:=dL (And.intro (js rfl yw.o nJ) (HC.o.fin_alloc hg4));clear nJ hg4))
  all_goals (go_wp2_with fail;go_ret2;exact ⟨HF.o.2,.inr (.inr (UU.o k _ _ HAk.o HF.o.1 HF.o.2))⟩)
 ·have QD:decide ((-1:Int) < 0)=true:=by decide
  have hkl:n<=xs.length:=by omega
  rw [hn] at HAk;go_wp2_with fail;refine HI.o.mono ?_;rintro e w5 ⟨rfl,ef⟩;have jt:=dL (fk.o.trans (ef.mono Hs.o));have HQ:=dL (Blk.below B9.o ef (Blk.lt B9.o));have nB:=dL (UO.o.below ef);have yR:=aI Hs.o ef.size;have iz:=dL yR;have HN:=dL (show n<=1000000 by omega);have HL:=dL (show xs.length<=1000000 by omega);have yw:=dL hkl;clear ef yR hm hn hkl;go_wp2_with fail;go_region_held3 (λw'=>w'.cell? B=s.st.1/\w'.cell? (Qc B 1)=s.st.2/\w'.cell? (Qc B 2)=s.seq/\w'.cell? (Qc B 3)=s.kind/\w'.cell? (Qc B 4)=s.node.1/\w'.cell? (Qc B 5)=s.node.2/\w'.cell? (Qc B 6)=s.dir/\w'.cell? (Qc B 7)=s.par.1/\w'.cell? (Qc B 8)=s.par.2/\w'.cell? (Qc B 9)=s.nm/\w'.cell? (Qc B 10)=s.mf)
   (with_reducible first|exact dx qD.o|exact dx oE.o|exact dx (Blk.alloc oE.o _)|exact dx (Blk.drew HQ.o)|exact dx (Blk.drew (Blk.alloc HQ.o _))|exact dx (Blk.alloc (Blk.drew HQ.o) _)|exact dx (Blk.alloc HQ.o _)|exact dx HQ.o)
   (first
    |(go_at_call 62;refine (vv A n c xs _ (nB.o.below (aC _ _).drew) HN.o).mono ?_;rintro e w6 ⟨v,rfl,oM,dn⟩;obtain ⟨A3,c3,rfl⟩:=dQ.isSlice oM;have oE:=dL (Blk.below (Blk.drew HQ.o) dn (Blk.lt HQ.o));have HC:=dL (iA.mk (B:=B) (w:=w) oM (jt.o.drew.trans (dn.mono iz.o)) (aI iz.o dn.size) iz.o);have Hv:=dL (Blk.lt HQ.o);clear oM dn)
    |(go_at_call 62;refine (vv A n c xs _ (nB.o.below ((aC _ _).alloc (aB _) _).drew) HN.o).mono ?_;rintro e w6 ⟨v,rfl,oM,dn⟩;obtain ⟨A3,c3,rfl⟩:=dQ.isSlice oM;have oE:=dL (Blk.below (Blk.drew (Blk.alloc HQ.o _)) dn (aN (Blk.lt HQ.o) (by simp)));have HC:=dL (iA.mk (B:=B) (w:=w) oM ((jt.o.alloc iz.o _).drew.trans (dn.mono (aI iz.o (by simp)))) (aI iz.o (aI (by simp) dn.size)) (aI iz.o (by simp)));have HV:=dL (Blk.below (Blk.drew (Blk.new w5 32 (oc s).toArray)) dn (by simp));have Hv:=dL (aN (Blk.lt HQ.o) (by simp:w5.heap.size<=(w5.alloc (.cells (oc s).toArray 32)).drew.heap.size));clear oM dn)
    |(go_at_call 61;refine (kW B _ xs.length n (iw xs) (oc s) _ 1 _ HC.o.own HL.o yw.o rfl (ni xs) (xW s) HV.o (HC.o.ne_at (by simp)) HC.o.le).mono ?_;rintro e w7 ⟨v4,rfl,nJ,hg4,_⟩;have qD:=dL (Blk.grown oE.o hg4 (λe=>HC.o.ne_at Hv.o e.symm));have HF:=dL (And.intro (js rfl yw.o nJ) (HC.o.fin hg4));clear nJ hg4)
    |(go_at_call 61;refine (kW B _ xs.length n (iw xs) (oc s) _ 1 _ (HC.o.own.alloc _) HL.o yw.o rfl (ni xs) (xW s) (Blk.new _ 32 (oc s).toArray) HC.o.ne_new (aI HC.o.le (by simp))).mono ?_;rintro e w7 ⟨v4,rfl,nJ,hg4,_⟩;have qD:=dL (Blk.grown (Blk.alloc oE.o _) hg4 (λe=>HC.o.ne_at Hv.o e.symm));have HF:=dL (And.intro (js rfl yw.o nJ) (HC.o.fin_alloc hg4));clear nJ hg4))
  all_goals (go_wp2_with fail;go_ret2;exact ⟨HF.o.2,.inr (.inr (UU.o n _ _ HAk.o HF.o.1 HF.o.2))⟩)
end
section
open Go.RowKit
attribute [local go_sem] dR dO dS dP
variable {w:World} {A:Option Addr} {xs:List dX}
theorem mR.take_ {n c:Nat} (h:mR w A n c xs) {k:Nat} (hk:k<=n):mR w A k c (xs.take k):=
 ⟨by rw [aR,h.len];omega,aI hk h.le,h.max,λi hi=>by
  rw [aR] at hi;obtain ⟨b,off,cs,e,hlt,hl,hr,hc⟩:=h.4 i (by omega);exact ⟨b,off,cs,e,hlt,hl,by simpa using hr,hc⟩⟩
theorem mR.drop_ {b off n c:Nat} (h:mR w (some ⟨b,off,none⟩) n c xs) {k:Nat} (hk:k<=n):mR w (some ⟨b,off+k*11,none⟩) (n - k) (c - k) (xs.drop k):=
 ⟨by rw [ah,h.len],by have:=h.le;omega,by have:=h.max;omega,λi hi=>by
  rw [ah] at hi;obtain ⟨b2,off2,cs,e,hlt,hl,hr,hc⟩:=h.4 (k+i) (by omega);cases e;exact ⟨b,off+k*11,cs,rfl,hlt,hl,by simpa using hr,λj u hu=>by
   have:=hc j u hu
   rwa [show off+(k+i)*11+j=off+k*11+i*11+j by rw [Nat.add_mul];omega] at this⟩⟩
theorem CK {c:Nat}:Src prog 11 22 (.slice A 0 c) 0 [] w:=by
 cases A with
 |none=>exact Src.ofNil w underlying22 c
 |some a=>exact Src.ofSlice w underlying22 a 0 c [] rfl (λj u hu=>by simp at hu) (λu hu=>by cases hu)
section
variable (w:World) {ops:Array Oper} {rest:List Oper} {o:Oper} {a:Act} {Q:Exit->Act->World->Prop}
theorem vL (hgd:o.guard=none) (x hi:Operand) (ho:o.op=.slice 22 x none (some hi) none) (A:Option Addr) (n c k:Nat) (xs:List dX) (hx:a.eval x=.slice A n c) (hk:a.eval hi=.int .i64 k) (hl:mR w A n c xs) (hkn:k<=n)
  (h:∀v,Src prog 11 22 v k (iw (xs.take k)) w->wpList prog ops Q rest (a.put o.dst v) w):wpList prog ops Q (o :: rest) a w:=
 wpList_plain hgd λK hK=>by
  have hle:=hl.le;have lg:=hl.max;have hs:=Src.ops (hl.take_ hkn);have h1:=hK _ _ (h _ hs);have q1:(k:Int)<=(c:Int):=by omega
  have q2:(0:Int)<=(k:Int):=by omega
  unfold Oper.wp execOp;simp only [ho,hx,hk,bI,Option.map_none];cases A <;> (go_simp;exact h1)
theorem vM (hgd:o.guard=none) (x lo:Operand) (ho:o.op=.slice 22 x (some lo) none none) (A:Option Addr) (n c k:Nat) (xs:List dX) (hx:a.eval x=.slice A n c) (hk:a.eval lo=.int .i64 k) (hl:mR w A n c xs) (hkn:k<=n)
  (h:∀v,Src prog 11 22 v (n - k) (iw (xs.drop k)) w->wpList prog ops Q rest (a.put o.dst v) w):wpList prog ops Q (o :: rest) a w:=
 wpList_plain hgd λK hK=>by
  have hle:=hl.le;have lg:=hl.max;have hn:=hl.len;have q1:(k:Int)<=(n:Int):=by omega
  have q2:(0:Int)<=(k:Int):=by omega
  unfold Oper.wp execOp;simp only [ho,hx,hk,bI,Option.map_none];rcases aD k n with hlt|hge
  ·obtain ⟨b,off,cs,rfl,_⟩:=hl.4 0 (by omega)
   have hs:=Src.ops (hl.drop_ hkn);have h1:=hK _ _ (h _ hs);have hne:¬ c=k:=by omega
   have e1:(⟨b,off,none⟩:Addr).add (k*11)= ⟨b,off+k*11,none⟩:=Addr.add_mid _ _ _;go_simp;exact h1
  ·obtain rfl:k=n:=by omega
   have hd:xs.drop k=[]:=cw (by omega);rw [hd] at h;have h1:∀A2,K (a.put o.dst (.slice A2 0 (c - k))) w:=λA2=>by
    have:=hK _ _ (h (.slice A2 0 (c - k)) (by rw [Nat.sub_self];exact CK));exact this
   cases A with
   |none=>go_simp;exact h1 _
   |some b=>
    by_cases hc:c=k
    ·have h2:=h1 (some b)
     subst hc;go_simp;rw [Nat.sub_self] at h2;exact h2
    ·go_simp;exact h1 _
end
def CL (w':World) (b o:Nat) (x:dX):Prop:=w'.cell? (Qc b o)=x.st.1/\w'.cell? ⟨b,o+1,none⟩=x.st.2/\w'.cell? ⟨b,o+2,none⟩=x.seq/\w'.cell? ⟨b,o+3,none⟩=x.kind/\w'.cell? ⟨b,o+4,none⟩=x.node.1/\w'.cell? ⟨b,o+5,none⟩=x.node.2/\w'.cell? ⟨b,o+6,none⟩=x.dir/\w'.cell? ⟨b,o+7,none⟩=x.par.1/\w'.cell? ⟨b,o+8,none⟩=x.par.2/\w'.cell? ⟨b,o+9,none⟩=x.nm/\w'.cell? ⟨b,o+10,none⟩=x.mf
theorem CL.of {w:World} {A:Option Addr} {n c k:Nat} {xs:List dX} (h:mR w A n c xs) (hk:k < xs.length):∃b off,A=some ⟨b,off,none⟩/\b < w.heap.size/\CL w b (off+k*11) xs[k]/\Ir xs[k]:=by
 obtain ⟨b,off,e,hlt,c0,c1,c2,c3,c4,c5,c6,c7,c8,c9,jX,m1,m2⟩:=mR.at_ h hk;exact ⟨b,off,e,hlt,⟨c0,c1,c2,c3,c4,c5,c6,c7,c8,c9,jX⟩,m1,m2⟩
theorem CL.below {w w':World} {b o:Nat} {x:dX} (h:CL w b o x) (hb:Below w w w') (hlt:b < w.heap.size):CL w' b o x:=by
 obtain ⟨c0,c1,c2,c3,c4,c5,c6,c7,c8,c9,jX⟩:=h;exact ⟨dU hb hlt c0,dU hb hlt c1,dU hb hlt c2,dU hb hlt c3,dU hb hlt c4,dU hb hlt c5,dU hb hlt c6,dU hb hlt c7,dU hb hlt c8,dU hb hlt c9,dU hb hlt jX⟩
def Ho (p m:Nat) (v:Value) (g:Nat):Prop:=g=p\/g=m\/v.ownBlock=some g
section
variable {w wr w':World} {p m:Nat} {v v' u:Value} {r r':Int} {L L' T:List dX}
theorem Live.own_lt (h:Live w wr p m v r L) {g:Nat} (hg:Ho p m v g):w.heap.size<=g/\g < wr.heap.size:=by
 rcases hg with rfl|rfl|hg
 ·exact ⟨h.mov.p_ge,h.p_lt⟩
 ·exact ⟨h.mov.m_ge,h.m_lt⟩
 ·exact h.v_lt g hg
theorem dQ.heapC {B size n:Nat} {xs:List Value} (h:dQ wr B size u n xs) (hb:∀g,u.ownBlock=some g->w'.heap[g]? =wr.heap[g]?) (hs:wr.heap.size<=w'.heap.size):dQ w' B size u n xs:=by
 refine ⟨h.1,?_⟩;rcases h.2 with hn| ⟨g,cap,rfl,hb',hlt,hnc,hcm,hs',hf,hx⟩
 ·exact .inl hn
 ·have hblk:w'.heap[g]? =wr.heap[g]?:=hb g rfl
  have hc:∀j,w'.cell? ⟨g,j,none⟩=wr.cell? ⟨g,j,none⟩:=λj=>aM (a:=⟨g,j,none⟩) hblk
  have hz:∀j,w'.frozen? ⟨g,j,none⟩=wr.frozen? ⟨g,j,none⟩:=λj=>World.frozen?_of_block (a:=⟨g,j,none⟩) hblk
  exact .inr ⟨g,cap,rfl,hb',aN hlt hs,hnc,hcm,λj hj=>by rw [hc];exact hs' j hj,λj hj=>by rw [hz];exact hf j hj,λj u hu=>by rw [hc];exact hx j u hu⟩
theorem Live.kept (h:Live w wr p m v r L) (hb:∀g,Ho p m v g->w'.heap[g]? =wr.heap[g]?) (hw:Below w w w') (hs:wr.heap.size<=w'.heap.size):Live w w' p m v r L:=
 ⟨⟨⟨⟨(hb p (.inl rfl)).trans h.mov.s3.stt.blk,h.mov.s3.stt.map.heap (hb m (.inr (.inl rfl)))⟩,dQ.heapC h.mov.s3.log (λg hg=>hb g (.inr (.inr hg))) hs,h.mov.s3.nep,h.mov.s3.nem⟩,h.mov.sorted,h.mov.len,h.mov.p_ge,h.mov.m_ge⟩,hw,h.short⟩
theorem fc.own3 (k:fc wr w' p m v) {g:Nat} (hlt:g < wr.heap.size) (hn:¬ Ho p m v g):w'.heap[g]? =wr.heap[g]?:=
 k.block g hlt (λe=>hn (.inl e)) (λe=>hn (.inr (.inl e))) (λe=>hn (.inr (.inr e.symm)))
end
section
variable {w wr w':World} {p m:Nat} {v v':Value} {r:Int} {L:List dX}
theorem Em (ho:∀g,v'.ownBlock=some g->v.ownBlock=some g\/wr.heap.size<=g) {g:Nat} (hg:Ho p m v' g):Ho p m v g\/wr.heap.size<=g:=by
 rcases hg with h|h|h
 ·exact .inl (.inl h)
 ·exact .inl (.inr (.inl h))
 ·rcases ho g h with h1|h1
  ·exact .inl (.inr (.inr h1))
  ·exact .inr h1
end
variable {S L La T Lb:List dX}
theorem Live.rebase{w w1 wr:World} {p m:Nat} {v:Value} {r:Int} (h:Live w1 wr p m v r L) (hb:Below w w w1):Live w wr p m v r L:=
 ⟨⟨⟨h.mov.s3.stt,dQ.mono h.mov.s3.log hb.size,h.mov.s3.nep,h.mov.s3.nem⟩,h.mov.sorted,h.mov.len,aI hb.size h.mov.p_ge,aI hb.size h.mov.m_ge⟩,hb.trans (h.below.mono hb.size),h.short⟩
theorem tj (L:List dX) (x:dX):(qJ L x).Perm (L++[x]):=by
 unfold qJ;have h1:(L.take (oy L x.st)++x :: L.drop (oy L x.st)).Perm (x :: (L.take (oy L x.st)++L.drop (oy L x.st))):=List.perm_middle;rw [bV] at h1;exact h1.trans (List.perm_append_singleton x L).symm
theorem yK:∀{xs ys:List dX},gQ xs->gQ ys->xs.Perm ys->xs=ys
 | [],ys,_,_,hp=>hp.nil_eq
 |a :: r,[],_,_,hp=>absurd hp.length_eq (by simp)
 |a :: r,b :: t,hx,hy,hp=>by
  have h1:=cU.1 hx;have h2:=cU.1 hy;have hab:a=b:=by
   rcases aQ.1 (hp.mem_iff.1 List.mem_cons_self) with h|h
   ·exact h
   ·rcases aQ.1 (hp.mem_iff.2 List.mem_cons_self) with h'|h'
    ·exact h'.symm
    ·have e1:=h1.1 b h'
     have e2:=h2.1 a h;rw [xN e1] at e2;cases e2
  subst hab;rw [yK h1.2 h2.2 (List.Perm.cons_inv hp)]
structure Lr (La T:List dX):Prop where
 perm:T.Perm La
 right:∀x∈La,rightS x.st=true
theorem Lr.nil_:Lr [] []:=⟨List.Perm.refl _,λx hx=>by cases hx⟩
theorem Lr.take (h:Lr La T) {x:dX} (hc:iT La x=0):Lr (lI La x) (T++[x]):=by
 unfold lI;rw [if_pos hc];refine ⟨(h.perm.append_right [x]).trans (tj La x).symm,λy hy=>?_⟩;have:=(tj La x).mem_iff.1 hy;rcases aq.1 this with h1|h1
 ·exact h.right y h1
 ·rw [aW.1 h1];exact (nX.1 hc).1
structure Left (La Lb T:List dX):Prop where
 perm:(T++Lb).Perm La
 sa:gQ La
 sb:gQ Lb
 right:∀x∈La,rightS x.st=true
 len:La.length<=400
theorem Left.start (h:Lr La T) (hs:gQ La) (hl:La.length<=400):Left La [] T:=⟨by rw [bG];exact h.perm,hs,List.Pairwise.nil,h.right,hl⟩
theorem Left.len_eq (h:Left La Lb T):T.length+Lb.length=La.length:=by have:=h.perm.length_eq;rw [aP] at this;exact this
theorem Left.code (h:Left La Lb T) {k:Nat} (hk:k < T.length):iT Lb T[k]=0:=by
 have hmem:T[k]∈La:=h.perm.mem_iff.1 (cW _ (aa hk));have hl:=h.len_eq;have hll:=h.len;refine nX.2 ⟨h.right _ hmem,?_,by omega⟩;cases hh:xO Lb T[k].st with
 |false=>rfl
 |true=>
  obtain ⟨y,hy,he⟩:=(Dz h.sb).1 hh;have hnd:((T++Lb).map (·.st)).Nodup:=by
   refine (h.perm.map _).nodup_iff.2 ?_;rw [List.Nodup,cV];exact h.sa.imp fun {a b} hab e=>by rw [e,mH] at hab;cases hab
  rw [bQ,cE] at hnd;exact absurd he.symm (hnd.2.2 _ (List.mem_map_of_mem (aa hk)) _ (List.mem_map_of_mem hy))
theorem Left.next (h:Left La Lb T) {k:Nat} (hk:k < T.length):Left La (lI Lb T[k]) (T.take k++T.drop (k+1)):=by
 have hc:=h.code hk;refine ⟨?_,h.sa,uR h.sb _,h.right,h.len⟩;unfold lI;rw [if_pos hc];have h1:T.Perm (T[k] :: (T.take k++T.drop (k+1))):=by
  have:T=T.take k++T[k] :: T.drop (k+1):=by
   rw [<-List.drop_eq_getElem_cons hk,bV]
  rw (occs:=.pos [1]) [this];exact List.perm_middle
 refine List.Perm.trans ?_ h.perm;refine ((tj Lb T[k]).append_left _).trans ?_;rw [<-bx];refine (List.perm_append_singleton _ _).trans ?_;rw [<-bC];exact h1.symm.append_right Lb
theorem Left.end_ (h:Left La Lb []):Lb=La:=yK h.sb h.sa h.perm
theorem Hp (x:Int) (n:Nat) (hn:0 < n):0<=Int.tmod (Int.tmod x n+n) n/\Int.tmod (Int.tmod x n+n) n < n/\-(n:Int) < Int.tmod x n/\Int.tmod x n < n:=by
 have h1:-(n:Int) < Int.tmod x n:=by
  have:=Int.lt_tmod_of_pos x (b:=(n:Int)) (by omega);exact this
 have h2:Int.tmod x n < n:=Int.tmod_lt_of_pos x (by omega);refine ⟨?_,Int.tmod_lt_of_pos _ (by omega),h1,h2⟩;exact Int.tmod_nonneg _ (by omega)
structure CM (S:List dX):Prop where
 good:Pb S
 sorted:gQ S
 short:kK S
theorem CM.nil_:CM []:=⟨λ_ h=>absurd h bH,List.Pairwise.nil,λ_ h=>absurd h bH⟩
theorem CM.add {x:dX} (h:CM S) (hx:Ir x) (hr:sG x=0) (hn:∀y∈S,y.st≠x.st):CM (vK S x):=by
 refine ⟨λy hy=>?_,El h.sorted hn,λy hy=>?_⟩
 ·rcases aQ.1 ((B6 S x).mem_iff.1 hy) with rfl|hy
  ·exact hr
  ·exact h.good y hy
 ·rcases aQ.1 ((B6 S x).mem_iff.1 hy) with rfl|hy
  ·exact hx
  ·exact h.short y hy
theorem CM.left (h:CM S) (hl:S.length<=400):Left S [] S:=
 ⟨by rw [bG],h.sorted,List.Pairwise.nil,λx hx=>(yF (h.good x hx)).1,hl⟩
def ud (xs:List Nd):List It:=(ja xs).getD []
def Pz (xs:List Nd):Int:=if (ja xs).isSome then 0 else 40
variable {xs:List Nd}
theorem JQ {w w':World} {e:Ending} (h:Iw xs w e w'):Below w w w'/\∃A c,e=.returned (.tuple #[.slice A (ud xs).length c,.int .i64 (Pz xs)])/\yo w' A (ud xs).length c (ud xs):=by
 refine ⟨h.1,?_⟩;unfold ud Pz;rcases h.2 with ⟨ys,A,c,h1,h2,h3⟩| ⟨h1,h2⟩
 ·rw [h1];exact ⟨A,c,h2,h3⟩
 ·rw [h1];exact ⟨none,0,h2,Sl.nil_⟩
theorem Q0 (hx:xs.length<=80) (hr:Lj xs):(∀it∈ud xs,it.path.length<=1000000)/\(ud xs).length<=1000:=by
 unfold ud ja;cases h:rU xs with
 |none=>exact ⟨λ_ h=>absurd h bH,by simp⟩
 |some out=>
  show (∀it∈jg out,it.path.length<=1000000)/\(jg out).length<=1000;obtain ⟨hn,hok⟩:=Im h;have hp:=(jA out).1;refine ⟨λit hi=>?_,?_⟩
  ·obtain ⟨s,ps,n,g,p1,p2,p3,p4,_⟩:=hok it (hp.mem_iff.1 hi)
   obtain ⟨k1,k2,k3⟩:=vh p2;have h1:=oz (ps:=ps) (λp hp=>(fe.1 (p1.right hx hr p hp)).2.1);have h2:=(fe.1 (mE hx hr _ k3)).2.1;rw [p3];show (fH ps++g).length<=_;rw [aP];omega
  ·have h1:=iN hn (λi hi=>by
    obtain ⟨it,h2,rfl⟩:=aU.1 hi;obtain ⟨s,ps,n,g,p1,p2,p3,p4,_⟩:=hok it h2;rw [p3];show n.id∈xs.map Nd.id;exact List.mem_map_of_mem (f:=Nd.id) (vh p2).1)
   rw [bJ,bJ] at h1;rw [hp.length_eq];omega
theorem Hq {rs:List Rl} {w:World} {A:Option Addr} {n c:Nat} {ys:List It} (h:yo w A n c ys):Pr (Ej rs ys):=by
 intro x hx;obtain ⟨y,hy,hk⟩:=List.mem_flatMap.1 hx;obtain ⟨j,hj,rfl⟩:=List.getElem_of_mem hy;obtain ⟨b,off,cs,e,hlt,hl,⟨rfl,h1,h2⟩,hc⟩:=h.4 j hj;unfold lY at hk;split at hk
 ·rw [aW.1 hk];exact ⟨h1,h2⟩
 ·split at hk
  ·rw [aW.1 hk];exact ⟨h1,by simp⟩
  ·cases hk
structure Q1 (w wr:World) (p m:Nat) (v:Value) (r:Int) (L:List dX) (sv:Value) (S:List dX) (tv:Value) (T:List dX):Prop where
 a:Live w wr p m v r L
 s:gU wr w sv S
 ss:kK S
 t:gU wr w tv T
 ts:kK T
 sa:∀g,sv.ownBlock=some g->¬ Ho p m v g
 ta:∀g,tv.ownBlock=some g->¬ Ho p m v g
section
variable {w wr w':World} {p m:Nat} {v v' sv tv tv':Value} {r:Int} {L S T T':List dX}
theorem Q1.then_ (h:Q1 w wr p m v r L sv S tv T) (hb:Below wr wr w'):Q1 w w' p m v r L sv S tv T:=
 ⟨h.a.then_ hb,dQ.below h.s hb,h.ss,dQ.below h.t hb,h.ts,h.sa,h.ta⟩
theorem TU (x:dX) (hx:Ir x) (h:Q1 w wr p m v r L sv S tv T):
  Calls prog 9 #[Qp p,ov x] wr λe w'=>∃v',e=.returned (.int .i64 (iT L x))/\Q1 w w' p m v' (PB r L x) (lI L x) sv S tv T:=by
 refine (EV x hx p m v r L w wr h.a).mono ?_;rintro e w' ⟨v',rfl,hl,hk,ho⟩;refine ⟨v',rfl,⟨hl,dQ.heapC h.s (λg hg=>hk.own3 (dQ.ge h.s g hg).2 (h.sa g hg)) hk.size,h.ss,dQ.heapC h.t (λg hg=>hk.own3 (dQ.ge h.t g hg).2 (h.ta g hg)) hk.size,h.ts,λg hg h1=>?_,λg hg h1=>?_⟩⟩
 ·rcases Em ho h1 with h3|h3
  ·exact h.sa g hg h3
  ·have:=(dQ.ge h.s g hg).2;omega
 ·rcases Em ho h1 with h3|h3
  ·exact h.ta g hg h3
  ·have:=(dQ.ge h.t g hg).2;omega
theorem Q1.anew (h:Q1 w wr p m v r L sv S tv T) (hb:Below wr wr w') (ho:gU w' wr tv' T') (hs:kK T'):Q1 w w' p m v r L sv S tv' T':=by
 have h2:=h.then_ hb;refine ⟨h2.a,h2.s,h2.ss,dQ.mono ho h.a.size,hs,h2.sa,λg hu h1=>?_⟩;have h3:=(dQ.ge ho g hu).1;have:=(h.a.own_lt h1).2;omega
end
end
end Go.Proofs.YtgdaahffmcfhpaaGreatDoor
