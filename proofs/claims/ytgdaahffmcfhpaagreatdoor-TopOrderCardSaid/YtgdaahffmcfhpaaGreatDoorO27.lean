/- Lemmas on the way: Vx Fi Fj Gp Gw Or Os Ot Ou Ov. -/
import Derived.Laws.EntriesVeiled
import Derived.Test.YtgdaahffmcfhpaaGreatDoorO24
import Derived.Test.YtgdaahffmcfhpaaGreatDoorO26
set_option maxRecDepth 100000
set_option maxHeartbeats 8000000
namespace Go.Proofs.YtgdaahffmcfhpaaGreatDoor
open aA
open Tryz
section
open Go.RowKit Go.Sort
attribute [local go_sem] dR dO dS dP
theorem Kr {α:Type} [Inhabited α] {lt:α->α->Bool} (hS:SWO lt) (d:Array α):(qI lt d).size=d.size:=(zz hS d).1.1
theorem xP (l:List It):(jg l).length=l.length:=(jA l).1.length_eq
def ItC (cs:List Value) (x:It):Prop:=cs=ic x/\x.path.length<=9223372036854775807/\x.mf.length<=9223372036854775807
abbrev yo (w:World) (A:Option Addr) (n c:Nat) (xs:List It):Prop:=Sl w 6 ItC A n c xs
theorem oz:∀{ps:List By},(∀p∈ps,p.length<=24)->(fH ps).length<=25*ps.length
 | [],_=>by simp [fH]
 |p :: ps,h=>by
  have h1:=h p (by simp);have h2:=oz (ps:=ps) (λq hq=>h q (by simp [hq]));have e:fH (p :: ps)=p++47 :: fH ps:=by simp [fH]
  rw [e];simp only [aP,aY];omega
theorem O7 {xs:List Nd} (hx:xs.length<=80) (hr:∀n∈xs,rightN n.nm=true) (hs:Short xs) {out:List It} (h:rU xs=some out):∀it∈out,it.path.length<=9223372036854775807/\it.mf.length<=9223372036854775807:=λit hi=>by
 obtain ⟨s,ps,n,g,p1,p2,p3,p4,_⟩:=(Im h).2 it hi;obtain ⟨k1,k2,k3⟩:=vh p2;have h1:=oz (ps:=ps) (λp hp=>(fe.1 (p1.right hx hr p hp)).2.1);have h2:=(fe.1 (mE hx hr _ k3)).2.1;have h3:=(hs n k1).2;rw [p3];refine ⟨?_,h3⟩;show (fH ps++g).length<=_;rw [aP];omega
theorem GN (w:World):(Instr.makeMap 96 none).run prog w=.ok (.map (some w.heap.size)) (w.alloc (.map #[] 0)):=by simp [Instr.makeMap,go_sem]
def Iw (xs:List Nd) (w:World) (e:Ending) (w':World):Prop:=
 Below w w w'/\((∃ys A c,ja xs=some ys/\e=.returned (.tuple #[.slice A ys.length c,qn])/\yo w' A ys.length c ys)\/(ja xs=none/\e=.returned (.tuple #[(),(40:Int)])))
def WK (w:World) (nv:Value):World:=((((w.alloc (.cells #[nv] 33)).alloc (.map #[] 0)).alloc (.cells #[.map (some (w.heap.size+1))] 96)).alloc (.cells #[()] 40)).alloc (.cells #[oe w.heap.size (w.heap.size+1+1) (w.heap.size+1+1+1) (w.heap.size+1+1+1+1)] 97)
theorem WL (w:World) (nv:Value):Blk (WK w nv) (w.heap.size+1+1+1+1) 97 #[oe w.heap.size (w.heap.size+1+1) (w.heap.size+1+1+1) (w.heap.size+1+1+1+1)]:=by
 have h:=Blk.new ((((w.alloc (.cells #[nv] 33)).alloc (.map #[] 0)).alloc (.cells #[.map (some (w.heap.size+1))] 96)).alloc (.cells #[()] 40)) 97 #[oe w.heap.size (w.heap.size+1+1) (w.heap.size+1+1+1) (w.heap.size+1+1+1+1)];simp only [World.alloc,ai] at h;exact h
theorem GO (w:World) (nv:Value):VI w (WK w nv) w (w.heap.size+1+1) (w.heap.size+1+1+1) (w.heap.size+1+1+1+1) (w.heap.size+1) (w.heap.size+1+1+1+1+1) nv (.slice none 0 0) ⟨[],[]⟩:=by
 have z1:(w.alloc (.cells #[nv] 33)).heap.size=w.heap.size+1:=ai _;have z2:((w.alloc (.cells #[nv] 33)).alloc (.map #[] 0)).heap.size=w.heap.size+1+1:=by rw [<-z1];exact ai _
 have z3:(((w.alloc (.cells #[nv] 33)).alloc (.map #[] 0)).alloc (.cells #[.map (some (w.heap.size+1))] 96)).heap.size=w.heap.size+1+1+1:=by rw [<-z2];exact ai _
 have z4:((((w.alloc (.cells #[nv] 33)).alloc (.map #[] 0)).alloc (.cells #[.map (some (w.heap.size+1))] 96)).alloc (.cells #[()] 40)).heap.size=w.heap.size+1+1+1+1:=by rw [<-z3];exact ai _
 have z5:(WK w nv).heap.size=w.heap.size+1+1+1+1+1:=by unfold WK;rw [<-z4];exact ai _
 have n0:=(((Blk.new w 33 #[nv]).alloc (.map #[] 0)).alloc (.cells #[.map (some (w.heap.size+1))] 96)).alloc (.cells #[()] 40)|>.alloc (.cells #[oe w.heap.size (w.heap.size+1+1) (w.heap.size+1+1+1) (w.heap.size+1+1+1+1)] 97)
 have n2:=((Blk.new ((w.alloc (.cells #[nv] 33)).alloc (.map #[] 0)) 96 #[.map (some (w.heap.size+1))]).alloc (.cells #[()] 40)).alloc (.cells #[oe w.heap.size (w.heap.size+1+1) (w.heap.size+1+1+1) (w.heap.size+1+1+1+1)] 97);have n3:=(Blk.new (((w.alloc (.cells #[nv] 33)).alloc (.map #[] 0)).alloc (.cells #[.map (some (w.heap.size+1))] 96)) 40 #[()]).alloc (.cells #[oe w.heap.size (w.heap.size+1+1) (w.heap.size+1+1+1) (w.heap.size+1+1+1+1)] 97);have n4:=WL w nv;have m1:=Met.new (w.alloc (.cells #[nv] 33));rw [z1] at m1;rw [z2] at n2;rw [z3] at n3;have m2:=((m1.heap (bM _ (.cells #[.map (some (w.heap.size+1))] 96) _ m1.lt)));have m3:=m2.heap (bM _ (.cells #[()] 40) _ m2.lt);have m4:=m3.heap (bM _ (.cells #[oe w.heap.size (w.heap.size+1+1) (w.heap.size+1+1+1) (w.heap.size+1+1+1+1)] 97) _ m3.lt);have b0:Below w w (WK w nv):=by
  unfold WK;have b1:=(aC w w).alloc (aB _) (.cells #[nv] 33);have b2:=b1.alloc b1.size (.map #[] 0);have b3:=b2.alloc b2.size (.cells #[.map (some (w.heap.size+1))] 96);have b4:=b3.alloc b3.size (.cells #[()] 40);exact b4.alloc b4.size (.cells #[oe w.heap.size (w.heap.size+1+1) (w.heap.size+1+1+1) (w.heap.size+1+1+1+1)] 97)
 exact ⟨b0,by omega,by omega,by rw [z5];exact aB _,n0,n2,n3,n4,m4,dQ.nil_ _ _ _⟩
theorem sC (xs:List Nd) (A:Option Addr) (n c:Nat) (w:World) (hx:lu w A n c xs) (hl:xs.length<=80) (hr:∀x∈xs,rightN x.nm=true):
  Calls prog 13 #[Qq A n c] w (Iw xs w):=by
 have hm:=GN;have hsh:=hx.short;have hV:=GO w (.slice A n c);have HD:=dL (Ny xs A n c w hx hl hr w (w.heap.size+1+1) (w.heap.size+1+1+1) (w.heap.size+1+1+1+1) (w.heap.size+1) (w.heap.size+1+1+1+1+1) 16 0 rfl (0,0) [] _ _ _ (aS _) hV ⟨by simp,rfl,by simp⟩);rw [show (bs []:ByteArray)= ⟨#[]⟩ from rfl,show ((0:Nat):Int)=0 from rfl] at HD;have d0:=hV.db.cell 0;simp only [aO,aT] at d0;unfold WK oe at*;have HVu:dK (rU xs=(jL xs 16 (0,0) [] ⟨[],[]⟩).map Vw.o):=rfl;have yQ:dK (Short xs):=hsh;have XY:dK (∀x∈xs,rightN x.nm=true):=hr;clear hV hx hsh hr;go_enter func13,ntmps13;go_wp2_with fail;refine HD.o.mono ?_;rintro e w2 (⟨v',u',hr',rfl,FH,fD,M4⟩| ⟨hr',rfl,dY⟩)
 ·have hu:rU xs=some v'.o:=by rw [HVu.o,hr'];rfl
  have hN:dK (ja xs=some (jg v'.o)):=by show _=_;unfold ja;rw [hu];rfl
  have hle:v'.o.length<=80:=aI fD.le hl;have hsI:=O7 hl XY.o yQ.o hu;have HSI:dK (∀it∈v'.o,it.path.length<=9223372036854775807/\it.mf.length<=9223372036854775807):=hsI;have o0:=FH.ob.cell 0;simp only [aO,aT] at o0;have HB:=dL FH.below;rcases FH.own.2 with ⟨Zf,hl0⟩| ⟨g,cap,Zf,hg1,hg2,hnc,hcm,_⟩
  ·have ho:v'.o=[]:=az hl0
   have F5:dK (ja xs=some []):=by show _=_;rw [hN.o,ho];exact congrArg some (List.perm_nil.1 (jA []).1)
   rw [Zf] at o0;have HS:=dL (Kh w2);clear hr' FH fD M4 Zf hl0 ho hu hsI;go_wp2_with fail;refine HS.o.mono ?_;rintro e w3 ⟨rfl,rfl⟩;go_wp2_with fail;go_ret2;exact ⟨HB.o,.inl ⟨[],none,0,F5.o,rfl,Sl.nil_⟩⟩
  ·have hown:=FH.own
   rw [Zf] at o0 hown;have HS:=dL (Kg _ g cap v'.o w2 hown (by omega));have hH:=AX hown;have HH:=dL hH;have HG:=dL hg2;have XM:dK (g≠w.heap.size+1+1+1):=by
    show _≠_;have:=FH.lt.2.2.1;omega
   have HGe:dK (w.heap.size<=g):=by show _<=_;have:=FH.lt.1;have:=FH.ge.1;omega
   have Ct:=FH.ob;rw [Zf] at Ct;have HOB:=dL Ct;have HNC:=dL hnc;have HCM:=dL hcm;clear hr' FH fD M4 Zf hown hH hu hsI hg1 hg2 hnc hcm Ct;go_wp2_with fail;refine HS.o.mono ?_;rintro e w3 ⟨rfl,hs3⟩;have qK:=Kf hs3;have o3:=(HOB.o.grown qK (λe=>XM.o (aX e).symm)).cell 0;simp only [aO,aT] at o3;have ze:=dL (hs3.holds HG.o HH.o (by rw [Kr Fu]));have eC:=dL (eY HB.o qK HGe.o HB.o.size);have Cq:=dL (hs3.lt HG.o);have aeF:dK (yo w3 (some ⟨g,0,none⟩) (jg v'.o).length cap (jg v'.o)):=by
    have hlen:=xP v'.o;refine ⟨rfl,by rw [hlen];exact HNC.o,by have:=HCM.o;unfold maxLen at this;omega,λi hi=>?_⟩;have hi':i < (qI ql v'.o.toArray).size:=hi;have hc:=HoldsK.cells ze.o (λx=>by simp [ic]) hi';have he:(qI ql v'.o.toArray)[i]! =(jg v'.o)[i]:=by rw [getElem!_pos _ i hi'];rfl
    rw [he] at hc;have hm:(jg v'.o)[i]∈v'.o:=(jA v'.o).1.mem_iff.1 (aa hi);refine ⟨g,0,ic (jg v'.o)[i],rfl,Cq.o,by simp [ic],⟨rfl,HSI.o _ hm⟩,λj u hu=>?_⟩;have:=hc j u hu;rw [Addr.add_lit] at this;exact this
   have hlen:=dL (xP v'.o);clear hs3 qK;go_wp2_with fail;go_ret2;refine ⟨eC.o,.inl ⟨jg v'.o,_,cap,hN.o,?_,aeF.o⟩⟩;rw [hlen.o];rfl
 ·have hN:dK (ja xs=none):=by show _=_;unfold ja;rw [HVu.o,hr'];rfl
  have HB:=dL dY;clear hr' dY;go_wp2_with fail;go_ret2;exact ⟨HB.o,.inr ⟨hN.o,rfl⟩⟩
end
section
open Go.RowKit
attribute [local go_sem] dR dO dS dP
def iv (x:It):Value:=.agg #[x.path,x.id.1,x.id.2,x.dir,false,x.mf]
def Bw:It:=⟨[],(0,0),false,[]⟩
variable {w:World} {k B B0:Nat} {xs:List It}
theorem yo.at_ {A:Option Addr} {n c:Nat} (h:yo w A n c xs) (hk:k < xs.length):
  ∃b off,A=some ⟨b,off,none⟩/\b < w.heap.size/\w.cell? ⟨b,off+k*6,none⟩=some (.string (bs xs[k].path))/\w.cell? ⟨b,off+k*6+1,none⟩=some (.int .i64 xs[k].id.1)/\w.cell? ⟨b,off+k*6+2,none⟩=some (.int .i64 xs[k].id.2)/\
   w.cell? ⟨b,off+k*6+3,none⟩=some (.bool xs[k].dir)/\w.cell? ⟨b,off+k*6+4,none⟩=false/\w.cell? ⟨b,off+k*6+5,none⟩=some (.string (bs xs[k].mf)):=by
 obtain ⟨b,off,cs,e,hlt,hl,⟨rfl,_⟩,hc⟩:=h.4 k hk;exact ⟨b,off,e,hlt,hc 0 _ rfl,hc 1 _ rfl,hc 2 _ rfl,hc 3 _ rfl,hc 4 _ rfl,hc 5 _ rfl⟩
def lJ (p:It->Bool) (xs:List It):Int:=match xs.findIdx? p with
 |some k=>k
 |none=>-1
variable {p:It->Bool}
theorem Ks (hk:k < xs.length) (h:p xs[k]=true) (ha:∀j (hj:j < xs.length),j < k->p xs[j]=false):lJ p xs=k:=by
 have:xs.findIdx? p=some k:=au.2 ⟨hk,h,λj hj=>by rw [ha j (by omega) hj];decide⟩;unfold lJ;rw [this]
theorem E3 (ha:∀j (hj:j < xs.length),p xs[j]=false):lJ p xs= -1:=by
 have:xs.findIdx? p=none:=bK.2 λx hx=>by
  obtain ⟨j,hj,rfl⟩:=bR.1 hx;exact ha j hj
 unfold lJ;rw [this]
def xQ (p:It->Bool) (xs:List It):It:=(xs.find? p).getD Bw
def GP (p:It->Bool) (xs:List It):Bool:=(xs.find? p).isSome
theorem Bz (p:It->Bool) (xs:List It):(∃(k:Nat) (hk:k < xs.length),lJ p xs=k/\xQ p xs=xs[k]/\GP p xs=true)\/(lJ p xs= -1/\xQ p xs=Bw/\GP p xs=false):=by
 cases h:xs.findIdx? p with
 |none=>
  have hn:=bK.1 h;have hf:xs.find? p=none:=List.find?_eq_none.2 λx hx=>by rw [hn x hx];decide
  exact .inr ⟨by unfold lJ;rw [h],by unfold xQ;rw [hf];rfl,by unfold GP;rw [hf];rfl⟩
 |some k=>
  obtain ⟨hk,hp,ha⟩:=au.1 h;have hf:xs.find? p=some xs[k]:=by
   rw [List.find?_eq_some_iff_getElem];exact ⟨hp,k,hk,rfl,λj hj=>by have:=ha j hj;simpa using this⟩
  exact .inl ⟨k,hk,by unfold lJ;rw [h],by unfold xQ;rw [hf];rfl,by unfold GP;rw [hf];rfl⟩
theorem O8 (g:Nat) (cb:Value) (p:It->Bool) (eg:∀args w,(callFunc g args).run prog w=.ok (.enter g args) w) (A:Option Addr) (n c:Nat) (xs:List It) (w:World) (hx:yo w A n c xs)
  (hcl:∀(x:It) (wr:World),Below w.heap.size w wr->Calls prog g #[iv x,cb] wr (dM wr (.bool (p x)))):
  Calls prog 102 #[Qq A n c,.func (.func g) #[] #[cb]] w (dM w (.int .i64 (lJ p xs))):=by
 have hn:=hx.len;have lg:=hx.max;have hle:=hx.le;have HX:=dL hx;have HC:dK (∀(x:It) (wr:World),Below w.heap.size w wr->Calls prog g #[iv x,cb] wr (dM wr (.bool (p x)))):=hcl;clear hx hcl;go_enter func102,ntmps102;go_wp2_with fail;go_loopw [8] (λi wr=>∃k:Nat,k<=xs.length/\i=.int .i64 k/\Below w.heap.size w wr/\∀j (hj:j < xs.length),j < k->p xs[j]=false) (λi _=>xs.length - (intOf i).toNat)
 case atStart=>exact ⟨0,by omega,rfl,aC _ _,λj _ h=>by omega⟩
 case round=>
  obtain ⟨k,hk,rfl,hb,hall⟩:=hrel;rcases aD k xs.length with hlt|hge
  ·obtain ⟨b,off,rfl,jW,c0,c1,c2,c3,c4,c5⟩:=yo.at_ (HX.o.below hb) hlt
   have HA:=dL hall;have hcl:=HC.o xs[k] wr hb;obtain ⟨x,hx⟩:∃x,xs[k]=x:=⟨_,rfl⟩;rw [hx] at c0 c1 c2 c3 c5 hcl;unfold iv at hcl;have wB:=dL hcl;have nB:=dL hx;have HB:=dL hb;have hki:(k:Int) < (n:Int):=by omega
   clear hall hx hb hcl;go_wp2_with fail;refine wB.o.mono ?_;rintro e w2 ⟨rfl,dY⟩;have dn:=HB.o.trans (dY.mono HB.o.size);cases hc:p x with
   |true=>
    go_wp2_with fail;have dy:lJ p xs=k:=Ks hlt (by rw [nB.o];exact hc) HA.o;go_ret;exact ⟨by rw [dy];rfl,dn⟩
   |false=>
    go_wp2_with fail;exact ⟨⟨k+1,by omega,by go_num,dn,λj hj hjk=>by
     by_cases e:j=k
     ·subst e;rw [nB.o];exact hc
     ·exact HA.o j hj (by omega)⟩,by simp [intOf];omega⟩
  ·have hkn:¬ (k:Int) < (n:Int):=by omega
   have dy:lJ p xs= -1:=E3 λj hj=>hall j hj (by omega)
   clear hall;go_wp2_with fail;go_ret;exact ⟨rfl,hb⟩
theorem Kt:∀args w,(callFunc 137 args).run prog w=.ok (.enter 137 args) w:=enters_of func137 (by decide) rfl
def pE (p:By) (x:It):Bool:=decide (x.path=p)
theorem SY (q:Nat) (s:By) (x:It) (w:World) (hq:w.cell? q=s):
  Calls prog 137 #[iv x,Qp q] w (dM w (.bool (pE s x))):=by
 have hl:=eB hq;obtain ⟨w1,hw1⟩:=dG (w.alloc (.cells (ic x).toArray 44));have hB:=Blk.new w 44 (ic x).toArray;have hb:=dH w (.cells (ic x).toArray 44);have hc:=cell?_alloc_old hq (.cells (ic x).toArray 44);rw [<-hw1] at hB hb hc;have e0:=hB.cell 0;unfold ic at hw1 e0;simp only [aO,aT] at e0;have he:dK ((x.path ==s)=pE s x):=by
  show _=_;unfold pE;rw [Bool.eq_iff_iff];simp
 have HW:=dL hw1;have HB:=dL hb;clear hw1 hb hB;unfold iv;go_enter func137,ntmps137;go_wp2_with fail;rw [<-HW.o];go_wp2_with fail;go_ret;exact ⟨by rw [<-he.o];rfl,HB.o⟩
theorem Ku {x:It} (h:Blk w B 44 (ic x).toArray):w.cell? B=x.path/\w.cell? (Qc B 1)=x.id.1/\w.cell? (Qc B 2)=x.id.2/\w.cell? (Qc B 3)=x.dir/\w.cell? (Qc B 4)=false/\w.cell? (Qc B 5)=x.mf:=
 ⟨h.cell 0,h.cell 1,h.cell 2,h.cell 3,h.cell 4,h.cell 5⟩
def put6 (w:World) (B:Nat) (x:It):World:=(((((w.setCell B x.path).setCell (Qc B 1) x.id.1).setCell (Qc B 2) x.id.2).setCell (Qc B 3) x.dir).setCell (Qc B 4) false).setCell (Qc B 5) x.mf
theorem xR {y:It} (x:It) (h:Blk w B 44 (ic y).toArray):Blk (put6 w B x) B 44 (ic x).toArray:=by
 have:=Blk.set_ (Blk.set_ (Blk.set_ (Blk.set_ (Blk.set_ (Blk.set_ h 0 (.string (bs x.path))) 1 (.int .i64 x.id.1)) 2 (.int .i64 x.id.2)) 3 (.bool x.dir)) 4 (.bool false)) 5 (.string (bs x.mf));unfold put6;simpa [ic] using this
theorem qo {w0:World} (h:Below B0 w0 w) (hB:B0<=B) (x:It):Below B0 w0 (put6 w B x):=
 (((((h.setCell (p:=B) hB _).setCell (p:=Qc B 1) hB _).setCell (p:=Qc B 2) hB _).setCell (p:=Qc B 3) hB _).setCell (p:=Qc B 4) hB _).setCell (p:=Qc B 5) hB _
theorem Kv (g:Nat) (cb:Value) (p:It->Bool) (eg:∀args w,(callFunc g args).run prog w=.ok (.enter g args) w) (A:Option Addr) (n c:Nat) (xs:List It) (w:World) (hx:yo w A n c xs)
  (hcl:∀(x:It) (wr:World),Below w.heap.size w wr->Calls prog g #[iv x,cb] wr (dM wr (.bool (p x)))):
  Calls prog 54 #[Qq A n c,.func (.func g) #[] #[cb]] w (dM w (.tuple #[iv (xQ p xs),(GP p xs)])):=by
 have hn:=hx.len;have lg:=hx.max;have hle:=hx.le;have dV:=dH w (.cells (ic Bw).toArray 44);have fD:=Blk.new w 44 (ic Bw).toArray;have hx1:=hx.below dV;have hidx:=O8 g cb p eg A n c xs _ hx1 (λx wr hb=>hcl x wr (dV.trans (hb.mono dV.size)));obtain ⟨w1,hw1⟩:=dG (w.alloc (.cells (ic Bw).toArray 44));rw [<-hw1] at fD dV hx1 hidx;have HW:=dL (show w1=w.alloc (.cells #[yj,qn,qn,false,false,yj] 44) from hw1);have HX:=dL hx1;have HB:=dL dV;have eA:=dL fD;have HP:=dL hidx;clear hw1 hx1 dV hx fD hidx hcl;rcases Bz p xs with ⟨k,hk,iU,hpk,Zm⟩| ⟨iU,hpk,Zm⟩
 ·rw [hpk,Zm]
  rw [iU] at HP;obtain ⟨x,YW⟩:=dG (xs[k]);rw [<-YW];have HXK:=dL YW;have hki:(k:Int) < (n:Int):=by omega
  have hkd:decide ((k:Int)≥0)=true:=decide_eq_true (by omega);clear hpk Zm iU YW;go_enter func54,ntmps54;go_wp2_with fail;rw [<-HW.o];refine HP.o.mono ?_;rintro e w2 ⟨rfl,dY⟩;have nI:=HB.o.trans (dY.mono HB.o.size);have fD:=Blk.below eA.o dY (Blk.lt eA.o);have hx2:=HX.o.below dY;have hf:=λi=>Blk.frozen fD i
  have f0:=hf 0;have f1:=hf 1;have f2:=hf 2;have f3:=hf 3;have f4:=hf 4;have f5:=hf 5;obtain ⟨g0,g1,g2,g3,g4,g5⟩:=Ku fD;have dy:=qo nI (aB w.heap.size) x;have r:=Ku (xR x fD);obtain ⟨b,off,rfl,jW,c0,c1,c2,c3,c4,c5⟩:=yo.at_ hx2 hk;rw [<-HXK.o] at c0 c1 c2 c3 c5;unfold put6 at dy r;obtain ⟨r0,r1,r2,r3,r4,r5⟩:=r;have HF:=dL dy;clear dy hf fD dY nI hx2;go_wp2_with fail;exact bodyPost_ret (v:=.tuple #[iv x,true]) (by simp [results,results54,go_sem,iv,r0,r1,r2,r3,r4,r5]) rfl ⟨rfl,HF.o⟩
 ·rw [hpk,Zm]
  rw [iU] at HP;clear hpk Zm iU;go_enter func54,ntmps54;go_wp2_with fail;rw [<-HW.o];refine HP.o.mono ?_;rintro e w2 ⟨rfl,dY⟩;have nI:=HB.o.trans (dY.mono HB.o.size);have fD:=Blk.below eA.o dY (Blk.lt eA.o);have hf:=λi=>Blk.frozen fD i
  have f0:=hf 0;have f1:=hf 1;have f2:=hf 2;have f3:=hf 3;have f4:=hf 4;have f5:=hf 5;obtain ⟨g0,g1,g2,g3,g4,g5⟩:=Ku fD;have dy:=qo nI (aB w.heap.size) Bw;have r:=Ku (xR Bw fD);unfold put6 Bw at dy r;obtain ⟨r0,r1,r2,r3,r4,r5⟩:=r;have he:(bs []:ByteArray)= ⟨#[]⟩:=rfl;simp only [he] at r0 r1 r2 r3 r4 r5 dy;have HF:=dL dy;clear dy hf fD dY nI;go_wp2_with fail;exact bodyPost_ret (v:=.tuple #[iv Bw,false]) (by simp [results,results54,go_sem,iv,Bw,r0,r1,r2,r3,r4,r5];rfl) rfl ⟨rfl,HF.o⟩
theorem at_it (s:By) (A:Option Addr) (n c:Nat) (xs:List It) (w:World) (hx:yo w A n c xs):
  Calls prog 84 #[Qq A n c,s] w (dM w (.tuple #[iv (xQ (pE s) xs),(GP (pE s) xs)])):=by
 have dV:=dH w (.cells #[s] 9);have dY:=dV.alloc dV.size (.cells (ic Bw).toArray 44);have hq:=(Blk.new w 9 #[s]).alloc (.cells (ic Bw).toArray 44);have fD:=Blk.new (w.alloc (.cells #[s] 9)) 44 (ic Bw).toArray;have hsz:(w.alloc (.cells #[s] 9)).heap.size=w.heap.size+1:=ai _;rw [hsz] at fD;have hx1:=hx.below dY;obtain ⟨w1,hw1⟩:=dG ((w.alloc (.cells #[s] 9)).alloc (.cells (ic Bw).toArray 44));rw [<-hw1] at fD dY hx1 hq;have QA:=Kv 137 (.pointer (some w)) (pE s) Kt A n c xs w1 hx1 (λx wr hb=>by
  have hqr:=hq.below hb hq.lt;exact SY w s x wr (hqr.cell 0))
 have HW:=dL (show w1=(w.alloc (.cells #[s] 9)).alloc (.cells #[yj,qn,qn,false,false,yj] 44) from hw1);have HB:=dL dY;have eA:=dL fD;have HP:=dL QA;obtain ⟨x,hx⟩:=dG (xQ (pE s) xs);rw [<-hx] at HP ⊢;obtain ⟨hs,Zn⟩:=dG (GP (pE s) xs);rw [<-Zn] at HP ⊢;clear hw1 hx1 dV dY fD QA hq hsz hx Zn;unfold iv at HP;go_enter func84,ntmps84;go_wp2_with fail;rw [<-HW.o];refine HP.o.mono ?_;rintro e w2 ⟨rfl,dY⟩;have nI:=HB.o.trans (dY.mono HB.o.size);have fD:=Blk.below eA.o dY (Blk.lt eA.o);have hf:=λi=>Blk.frozen fD i
 have f0:=hf 0;have f1:=hf 1;have f2:=hf 2;have f3:=hf 3;have f4:=hf 4;have f5:=hf 5;obtain ⟨g0,g1,g2,g3,g4,g5⟩:=Ku fD;have dy:=qo nI (bF w) x;have r:=Ku (xR x fD);unfold put6 at dy r;obtain ⟨r0,r1,r2,r3,r4,r5⟩:=r;have HF:=dL dy;clear dy hf fD dY nI;go_wp2_with fail;exact bodyPost_ret (v:=.tuple #[iv x,hs]) (by simp [results,results84,go_sem,iv,r0,r1,r2,r3,r4,r5]) rfl ⟨rfl,HF.o⟩
theorem uS:∀{s:By},(47:UInt8)∈s->∃p r,s=p++47 :: r/\(47:UInt8)∉p
 |c :: s,h=>by
  by_cases hc:c=47
  ·exact ⟨[],s,by rw [hc];rfl,by simp⟩
  ·obtain ⟨p,r,e,hp⟩:=uS (s:=s) (by simpa [Ne.symm hc] using h)
   exact ⟨c :: p,r,by rw [e];rfl,by simp [hp,Ne.symm hc]⟩
theorem O9:∀{p r:By},(47:UInt8)∉p->Lib.index (p++47 :: r) [47]=(p.length:Int)
 | [],r,_=>by rw [ak,Lib.index,if_pos (by simp [List.isPrefixOf])];rfl
 |c :: p,r,h=>by
  have hc:c≠47:=λe=>h (by simp [e])
  have ih:=O9 (p:=p) (r:=r) (λhm=>h (by simp [hm]));rw [bC,Lib.index,if_neg (by simp [List.isPrefixOf,Ne.symm hc]),ih,if_neg (by simp)];simp
theorem sD:∀(n:Nat) (s:By),s.length<=n->Lib.splitK [47] 0 (s.count 47) s=ey s
 |0,s,h=>by
  obtain rfl:s=[]:=List.length_eq_zero_iff.1 (by omega);rfl
 |n+1,s,h=>by
  by_cases hm:(47:UInt8)∈s
  ·obtain ⟨p,r,rfl,hp⟩:=uS hm
   have hc:(p++47 :: r).count 47=r.count 47+1:=by
    rw [List.count_append,List.count_eq_zero.2 hp,List.count_cons_self];omega
   rw [hc,Lib.splitK,O9 hp,if_neg (by simp),wg hp];have e1:(p++47 :: r).take (((p.length:Int)).toNat+0)=p:=by simp
   have e2:(p++47 :: r).drop (((p.length:Int)).toNat+[(47:UInt8)].length)=r:=by
    simp only [Int.toNat_natCast,aY,bE];rw [show p.length+(0+1)=(p++[47]).length by simp,show p++47 :: r=(p++[47])++r by simp,List.drop_left]
   rw [e1,e2,sD n r (by simp at h;omega)]
  ·rw [List.count_eq_zero.2 hm,we hm];rfl
theorem OA:∀s:By,ey s≠[]
 | []=>by simp [ey]
 |c :: r=>by
  rw [ey];split
  ·simp
  ·split <;> simp
theorem kV:∀s:By,∀p∈ey s,p.length<=s.length
 | [],p,h=>by simp [ey] at h;subst h;simp
 |c :: r,p,h=>by
  rw [ey] at h;split at h
  ·rcases aQ.1 h with rfl|h
   ·simp
   ·have:=kV r p h;simp;omega
  ·cases hs:ey r with
   |nil=>exact absurd hs (OA r)
   |cons q qs=>
    rw [hs] at h;rcases aQ.1 h with rfl|h
    ·have:=kV r q (by rw [hs];simp);simp;omega
    ·have:=kV r p (by rw [hs];simp [h]);simp;omega
theorem Kw (s:By) (hs:s.length < 4294967281) (w:World):Calls prog 50 #[s,.string ⟨#[47]⟩] w λe w'=>
  ∃c,e=.returned (.slice (some w) (ey s).length c)/\Strs w' (some ⟨w.heap.size,0,none⟩) (ey s).length c (ey s)/\Below w w w':=by
 have CY:Lib.countB (bs s) ⟨#[47]⟩=s.count 47:=by
  show Lib.count (bs s).data.toList [47]=_;rw [j6,Lib.count_one]
 have hcl:s.count 47<=s.length:=List.count_le_length;have hC:Calls prog 158 #[s,.string ⟨#[47]⟩] w λe w'=>e=.returned (.int .i64 (Lib.countB (bs s) ⟨#[47]⟩))/\w'=w:=by
  refine (strings_Count_one (bs s) 47 w).mono λe w' ⟨he,hw⟩=> ⟨?_,hw⟩
  rw [he,CY,j6];rfl
 have hI:∀(x:ByteArray) (c:Array Value),x.size<=(bs s).size->Calls prog 159 #[.string x,.string ⟨#[47]⟩] (w.alloc (.cells c 9)) λe w'=>e=.returned (.int .i64 (Lib.indexB x ⟨#[47]⟩))/\w'=w.alloc (.cells c 9):=λx c _=>by
  refine (strings_Index_one x 47 _).mono λe w' ⟨he,hw⟩=> ⟨?_,hw⟩
  rw [he];show _=Ending.returned (.int .i64 (Lib.index x.data.toList [47]));rw [Lib.index_one]
 have hg:=Any.strings_genSplit_core lays221 (by kernel_rfl) (bs s) ⟨#[47]⟩ 0 (-1) (s.count 47+1) w (by rw [dR];exact hs) (by decide) (aS _) hI hC (by decide) (by decide) (by rw [CY,dR,if_pos (by decide)];omega);have hlen:(Lib.splitB ⟨#[47]⟩ 0 (s.count 47) (bs s)).length=s.count 47+1:=Lib.splitB_all ⟨#[47]⟩ (by decide) 0 _ (bs s) CY;have QU:(Lib.splitB ⟨#[47]⟩ 0 (s.count 47) (bs s)).map (·.data.toList)=ey s:=by
  rw [Lib.splitB_data,j6];exact sD s.length s (aB _)
 have tu:(ey s).length=s.count 47+1:=by rw [<-QU,bJ,hlen]
 rw [Nat.add_sub_cancel] at hg;have e2:Lib.cellsOf (Lib.splitB ⟨#[47]⟩ 0 (s.count 47) (bs s)) (s.count 47+1)=((ey s).map λp=>Value.string (bs p)).toArray:=by
  rw [<-hlen,Lib.cellsOf_full,<-QU,List.map_map];congr 2
 rw [e2,hlen] at hg;have HG:dK (Calls prog 98 #[s,.string ⟨#[47]⟩,qn,.int .i64 (-1)] w λe w'=>e=.returned (Qs w (s.count 47+1) (s.count 47+1))/\w'=w.alloc (.cells ((ey s).map λp=>Value.string (bs p)).toArray 9)):=hg;have HL:=dL tu;clear hg hlen QU tu e2 hI hC CY;go_enter func50,ntmps50;go_wp2_with fail;refine HG.o.mono ?_;rintro e w2 ⟨rfl,hw⟩;have HW:=dL hw;clear hw;go_wp2_with fail;go_ret;refine ⟨s.count 47+1,by rw [HL.o];rfl,?_,by rw [HW.o];exact (aC _ w).alloc (aB _) _⟩;have hB:=Blk.new w 9 ((ey s).map λp=>Value.string (bs p)).toArray;rw [<-HW.o] at hB;refine ⟨rfl,by rw [HL.o];exact aB _,by omega,λi hi=> ⟨w.heap.size,0,[.string (bs (ey s)[i])],rfl,hB.lt,rfl,⟨rfl,by have:=kV s _ (aa hi);omega⟩,λj u hu=>?_⟩⟩
 match j,hu with
 |0,hu=>
  cases hu;rw [hB.cell];simp [hi]
def mN (p:By->Bool) (xs:List By):Int:=match xs.findIdx? p with
 |some k=>k
 |none=>-1
theorem Kx{p:By->Bool} {xs:List By} (hk:k < xs.length) (h:p xs[k]=true) (ha:∀j (hj:j < xs.length),j < k->p xs[j]=false):mN p xs=k:=by
 have:xs.findIdx? p=some k:=au.2 ⟨hk,h,λj hj=>by rw [ha j (by omega) hj];decide⟩;unfold mN;rw [this]
theorem E4 {p:By->Bool} {xs:List By} (ha:∀j (hj:j < xs.length),p xs[j]=false):mN p xs= -1:=by
 have:xs.findIdx? p=none:=bK.2 λx hx=>by
  obtain ⟨j,hj,rfl⟩:=bR.1 hx;exact ha j hj
 unfold mN;rw [this]
theorem GQ (p:By->Bool) (xs:List By):decide (mN p xs≥0)=xs.any p:=by
 unfold mN;cases h:xs.findIdx? p with
 |none=>
  have hn:=bK.1 h;have:xs.any p=false:=List.any_eq_false.2 λx hx=>by rw [hn x hx];decide
  rw [this];decide
 |some k=>
  obtain ⟨hk,hp,_⟩:=au.1 h;have:xs.any p=true:=List.any_eq_true.2 ⟨_,aa hk,hp⟩;rw [this];exact decide_eq_true (by show (0:Int)<=k;omega)
theorem Ky (g:Nat) (p:By->Bool) (eg:∀args w,(callFunc g args).run prog w=.ok (.enter g args) w) (A:Option Addr) (n c:Nat) (xs:List By) (w:World) (hx:Strs w A n c xs)
  (hcl:∀(x:By) (wr:World),x.length<=9223372036854775807->Calls prog g #[.string (bs x)] wr (dM wr (.bool (p x)))):
  Calls prog 99 #[Qq A n c,.func (.func g) #[] #[]] w (dM w (.int .i64 (mN p xs))):=by
 have hn:=hx.len;have lg:=hx.max;have hle:=hx.le;have HX:=dL hx;have HC:dK (∀(x:By) (wr:World),x.length<=9223372036854775807->Calls prog g #[.string (bs x)] wr (dM wr (.bool (p x)))):=hcl;clear hx hcl;go_enter func99,ntmps99;go_wp2_with fail;go_loopw [8] (λi wr=>∃k:Nat,k<=xs.length/\i=.int .i64 k/\Below w.heap.size w wr/\∀j (hj:j < xs.length),j < k->p xs[j]=false) (λi _=>xs.length - (intOf i).toNat)
 case atStart=>exact ⟨0,by omega,rfl,aC _ _,λj _ h=>by omega⟩
 case round=>
  obtain ⟨k,hk,rfl,hb,hall⟩:=hrel;rcases aD k xs.length with hlt|hge
  ·obtain ⟨b,off,rfl,jW,c0,CP⟩:=Strs.at_ (HX.o.below hb) hlt
   have HA:=dL hall;have wB:=dL (HC.o xs[k] wr CP);obtain ⟨x,hx⟩:∃x,xs[k]=x:=⟨_,rfl⟩;rw [hx] at c0 wB;have nB:=dL hx;have HB:=dL hb;have hki:(k:Int) < (n:Int):=by omega
   clear hall hx hb CP;go_wp2_with fail;refine wB.o.mono ?_;rintro e w2 ⟨rfl,dY⟩;have dn:=HB.o.trans (dY.mono HB.o.size);cases hc:p x with
   |true=>
    go_wp2_with fail;have dy:mN p xs=k:=Kx hlt (by rw [nB.o];exact hc) HA.o;go_ret;exact ⟨by rw [dy];rfl,dn⟩
   |false=>
    go_wp2_with fail;exact ⟨⟨k+1,by omega,by go_num,dn,λj hj hjk=>by
     by_cases e:j=k
     ·subst e;rw [nB.o];exact hc
     ·exact HA.o j hj (by omega)⟩,by simp [intOf];omega⟩
  ·have hkn:¬ (k:Int) < (n:Int):=by omega
   have dy:mN p xs= -1:=E4 λj hj=>hall j hj (by omega)
   clear hall;go_wp2_with fail;go_ret;exact ⟨rfl,hb⟩
theorem qS (g:Nat) (p:By->Bool) (eg:∀args w,(callFunc g args).run prog w=.ok (.enter g args) w) (A:Option Addr) (n c:Nat) (xs:List By) (w:World) (hx:Strs w A n c xs)
  (hcl:∀(x:By) (wr:World),x.length<=9223372036854775807->Calls prog g #[x] wr (dM wr (.bool (p x)))):
  Calls prog 51 #[Qq A n c,.func (.func g) #[] #[]] w (dM w (.bool (xs.any p))):=by
 have HI:=dL (Ky g p eg A n c xs w hx hcl);have HF:=dL (GQ p xs);generalize mN p xs=f at*;clear hx hcl;go_enter func51,ntmps51;go_wp2_with fail;refine HI.o.mono ?_;rintro e w2 ⟨rfl,hb⟩;have HB:=dL hb;clear hb;go_wp2_with fail;go_ret;exact ⟨by rw [<-HF.o];rfl,HB.o⟩
theorem Kz (x:By) (w:World) (hx:x.length<=9223372036854775807):Calls prog 52 #[x] w (dM w (.bool (!rightN x))):=by
 have HR:=dL (mY x hx w);cases h:rightN x with
 |true=>
  rw [mW h] at HR;go_enter func52,ntmps52;go_wp2_with fail;refine HR.o.mono ?_;rintro e w2 ⟨rfl,hb⟩;have HB:=dL hb;clear hb;go_wp2_with fail;go_ret;exact ⟨rfl,HB.o⟩
 |false=>
  rw [oZ h] at HR;go_enter func52,ntmps52;go_wp2_with fail;refine HR.o.mono ?_;rintro e w2 ⟨rfl,hb⟩;have HB:=dL hb;clear hb;go_wp2_with fail;go_ret;exact ⟨rfl,HB.o⟩
theorem OB:∀args w,(callFunc 52 args).run prog w=.ok (.enter 52 args) w:=enters_of func52 (by decide) rfl
theorem SZ (l:List By):l.any (λx=>!rightN x)= !(l.all rightN):=by
 induction l with
 |nil=>rfl
 |cons x l ih=>simp only [List.any_cons,List.all_cons,ih,Bool.not_and]
theorem E5 (s:By) (hs:s.length < 4294967281) (w:World):Calls prog 14 #[s] w (dM w (.bool (DQ s))):=by
 have HS:=dL (Kw s hs w);have hp:dK (DQ s=(decide ((ey s).length<=16) && (ey s).all rightN)):=rfl;by_cases h:(ey s).length<=16
 ·have hd:decide (((ey s).length:Int)<=16)=true:=decide_eq_true (by omega)
  have dy:dK ((!((ey s).any λx=>!rightN x))=DQ s):=by
   show _=_;rw [hp.o,SZ,Bool.not_not,decide_eq_true h,Bool.true_and]
  clear hp h;go_enter func14,ntmps14;go_wp2_with fail;refine HS.o.mono ?_;rintro e w2 ⟨c,rfl,hS,hb⟩;have HC:=dL (qS 52 (λx=>!rightN x) OB _ _ c _ w2 hS (λx wr hx=>Kz x wr hx));have HB:=dL hb;obtain ⟨an,han⟩:=dG ((ey s).any λx=>!rightN x)
  rw [<-han] at dy HC;clear hS hb han;go_wp2_with fail;refine HC.o.mono ?_;rintro e w3 ⟨rfl,dn⟩;have eC:=dJ HB dn;clear dn;go_wp2_with fail;go_ret;exact ⟨by rw [<-dy.o];rfl,eC.o⟩
 ·have hd:decide (((ey s).length:Int)<=16)=false:=decide_eq_false (by omega)
  have dy:dK (DQ s=false):=by show _=_;rw [hp.o,decide_eq_false h];rfl
  clear hp h;go_enter func14,ntmps14;go_wp2_with fail;refine HS.o.mono ?_;rintro e w2 ⟨c,rfl,hS,hb⟩;have HB:=dL hb;clear hS hb;go_wp2_with fail;go_ret;exact ⟨by rw [dy.o];rfl,HB.o⟩
#print axioms E5
theorem E6 (p s:By):(Lib.hasPrefix p s && !(Lib.trimPrefix p s).isEmpty)=(s.isPrefixOf p && !decide (p=s)):=by
 unfold Lib.trimPrefix Lib.hasPrefix;cases h:s.isPrefixOf p with
 |false=>simp
 |true=>
  obtain ⟨t,rfl⟩:=List.isPrefixOf_iff_prefix.1 h;simp only [if_true,Bool.true_and];cases t with
  |nil=>simp
  |cons=>simp
theorem qp (p s:By) (hs:s.length<=1000000) (w:World):Calls prog 17 #[p,s] w (dM w (.bool (withinB p s))):=by
 have QN:bs s++(⟨#[47]⟩:ByteArray)=bs (s++[47]):=dP s [47];have HC:dK (Calls prog 56 #[p,.string (bs (s++[47]))] w λe w'=>e=.returned (.tuple #[.string (bs (Lib.trimPrefix p (s++[47]))),(Lib.hasPrefix p (s++[47]))])/\w'=w):=by
  have:=strings_CutPrefix (bs p) (bs (s++[47])) w;rw [j6,j6] at this;exact this
 have hr:=E6 p (s++[47]);obtain ⟨rs,hrs⟩:=dG (Lib.trimPrefix p (s++[47]));obtain ⟨is,Tf⟩:=dG (Lib.hasPrefix p (s++[47]));rw [<-hrs,<-Tf] at hr HC;have hW:dK (withinB p s=(decide (s=[46]) || decide (p=s) || (is && !rs.isEmpty))):=by show _=_;rw [hr];rfl
 obtain ⟨sl,CP⟩:=dG (s++[47]);rw [<-CP] at QN HC;clear hr hrs Tf CP;have e1:(s ==[46])=decide (s=[46]):=by rw [Bool.eq_iff_iff];simp
 have e2:(p ==s)=decide (p=s):=by rw [Bool.eq_iff_iff];simp
 have hlen:¬ (9223372036854775807 < s.length+1):=by omega
 cases h1:decide (s=[46]) with
 |true=>
  rw [h1] at e1 hW;clear e2 h1;go_enter func17,ntmps17;go_wp2_with fail;refine HC.o.mono ?_;rintro e w2 ⟨rfl,rfl⟩;go_wp2_with fail;go_ret;exact ⟨by rw [hW.o];rfl,aC _ _⟩
 |false=>
  cases h2:decide (p=s) with
  |true=>
   rw [h1] at e1 hW;rw [h2] at e2 hW;clear h1 h2;go_enter func17,ntmps17;go_wp2_with fail;refine HC.o.mono ?_;rintro e w2 ⟨rfl,rfl⟩;go_wp2_with fail;go_ret;exact ⟨by rw [hW.o];rfl,aC _ _⟩
  |false=>
   rw [h1] at e1 hW;rw [h2] at e2 hW;clear h1 h2;cases is with
   |false=>
    go_enter func17,ntmps17;go_wp2_with fail;refine HC.o.mono ?_;rintro e w2 ⟨rfl,rfl⟩;go_wp2_with fail;go_ret;exact ⟨by rw [hW.o];rfl,aC _ _⟩
   |true=>
    go_enter func17,ntmps17;go_wp2_with fail;refine HC.o.mono ?_;rintro e w2 ⟨rfl,rfl⟩;go_wp2_with fail;go_ret;exact ⟨by rw [hW.o];rfl,aC _ _⟩
#print axioms qp
theorem E7 (x y:dX) (w:World):(binOp .eql 32 (ov x) (ov y)).run prog w=.ok (.bool (decide (x=y))) w:=by
 unfold ov;simp [go_sem];by_cases e1:x.st.1=y.st.1
 case neg=>rw [if_neg e1,decide_eq_false (λe=>e1 (by rw [e]))]
 by_cases e2:x.st.2=y.st.2
 case neg=>rw [if_pos e1,if_neg e2,decide_eq_false (λe=>e2 (by rw [e]))]
 by_cases e3:x.seq=y.seq
 case neg=>rw [if_pos e1,if_pos e2,if_neg e3,decide_eq_false (λe=>e3 (by rw [e]))]
 by_cases e4:x.kind=y.kind
 case neg=>rw [if_pos e1,if_pos e2,if_pos e3,if_neg e4,decide_eq_false (λe=>e4 (by rw [e]))]
 by_cases e5:x.node.1=y.node.1
 case neg=>rw [if_pos e1,if_pos e2,if_pos e3,if_pos e4,if_neg e5,decide_eq_false (λe=>e5 (by rw [e]))]
 by_cases e6:x.node.2=y.node.2
 case neg=>rw [if_pos e1,if_pos e2,if_pos e3,if_pos e4,if_pos e5,if_neg e6,decide_eq_false (λe=>e6 (by rw [e]))]
 by_cases e7:x.dir=y.dir
 case neg=>rw [if_pos e1,if_pos e2,if_pos e3,if_pos e4,if_pos e5,if_pos e6,if_neg e7,decide_eq_false (λe=>e7 (by rw [e]))]
 by_cases e8:x.par.1=y.par.1
 case neg=>rw [if_pos e1,if_pos e2,if_pos e3,if_pos e4,if_pos e5,if_pos e6,if_pos e7,if_neg e8,decide_eq_false (λe=>e8 (by rw [e]))]
 by_cases e9:x.par.2=y.par.2
 case neg=>rw [if_pos e1,if_pos e2,if_pos e3,if_pos e4,if_pos e5,if_pos e6,if_pos e7,if_pos e8,if_neg e9,decide_eq_false (λe=>e9 (by rw [e]))]
 by_cases wD:x.nm=y.nm
 case neg=>rw [if_pos e1,if_pos e2,if_pos e3,if_pos e4,if_pos e5,if_pos e6,if_pos e7,if_pos e8,if_pos e9,if_neg wD,decide_eq_false (λe=>wD (by rw [e]))]
 by_cases e11:x.mf=y.mf
 case neg=>rw [if_pos e1,if_pos e2,if_pos e3,if_pos e4,if_pos e5,if_pos e6,if_pos e7,if_pos e8,if_pos e9,if_pos wD,if_neg e11,decide_eq_false (λe=>e11 (by rw [e]))]
 rw [if_pos e1,if_pos e2,if_pos e3,if_pos e4,if_pos e5,if_pos e6,if_pos e7,if_pos e8,if_pos e9,if_pos wD,if_pos e11,decide_eq_true];cases x;cases y;simp only [dX.mk.injEq];exact ⟨Prod.ext e1 e2,e3,e4,Prod.ext e5 e6,e7,Prod.ext e8 e9,wD,e11⟩
def nY (s:St):Bool:=decide (s=(0,0)) || rightS s
theorem nZ (s:St) (w:World):Calls prog 87 #[.agg #[s.1,s.2]] w (dM w (.bool (nY s))):=by
 have HR:=dL (lH s (w.alloc (.cells #[s.1,s.2] 30)));have dV:=dL ((aC w w).alloc (aB _) (.cells #[s.1,s.2] 30));have he:=iE s (0,0);have HP:dK (nY s=(decide (s=(0,0)) || rightS s)):=rfl;cases h:decide (s=(0,0)) with
 |true=>
  rw [h] at HP;simp only [h] at he;clear h;go_enter func87,ntmps87;go_wp2_with fail;go_ret;exact ⟨by rw [HP.o];rfl,dV.o⟩
 |false=>
  rw [h] at HP;simp only [h] at he;clear h;cases hr:rightS s with
  |true=>
   rw [hr] at HR HP;simp only [if_true] at HR;clear hr;go_enter func87,ntmps87;go_wp2_with fail;refine HR.o.mono ?_;rintro e w2 ⟨rfl,hb⟩;have HB:=dJ dV hb;clear hb;go_wp2_with fail;go_ret;exact ⟨by rw [HP.o];rfl,HB.o⟩
  |false=>
   rw [hr] at HR HP;simp only [bp,if_false] at HR;clear hr;go_enter func87,ntmps87;go_wp2_with fail;refine HR.o.mono ?_;rintro e w2 ⟨rfl,hb⟩;have HB:=dJ dV hb;clear hb;go_wp2_with fail;go_ret;exact ⟨by rw [HP.o];rfl,HB.o⟩
#print axioms nZ
def xS (x:dX):dX:=⟨x.st,x.seq,x.kind,x.st,x.dir,x.par,x.nm,if x.dir then [] else x.mf⟩
def sE (x:dX):dX:=⟨x.st,x.seq,x.kind,x.node,false,x.par,x.nm,[]⟩
def qT (x:dX):dX:=⟨x.st,x.seq,x.kind,x.node,false,(0,0),[],x.mf⟩
def iY (x:dX):dX:=⟨x.st,x.seq,x.kind,x.node,false,(0,0),[],[]⟩
def shapedB (x:dX):Bool:=
 if x.kind=1 then decide (x=xS x) && nY x.par && !decide (x.par=x.node) && decide (x.mf.length<=600)
 else if x.kind=2 then decide (x=sE x) && nY x.par && rightS x.node
 else if x.kind=3 then decide (x=qT x) && rightS x.node && decide (x.mf.length<=600)
 else if x.kind=4 then decide (x=iY x) && rightS x.node
 else false
theorem sF (x y:dX) (w:World):Blk ((w.alloc (.cells (oc x).toArray 32)).alloc (.cells (oc y).toArray 32)) w 32 (oc x).toArray/\Blk ((w.alloc (.cells (oc x).toArray 32)).alloc (.cells (oc y).toArray 32)) (w.heap.size+1) 32 (oc y).toArray/\
  Below w w ((w.alloc (.cells (oc x).toArray 32)).alloc (.cells (oc y).toArray 32)):=by
 have hsz:(w.alloc (.cells (oc x).toArray 32)).heap.size=w.heap.size+1:=ai _;have h2:=Blk.new (w.alloc (.cells (oc x).toArray 32)) 32 (oc y).toArray;rw [hsz] at h2;have b1:=(aC w w).alloc (aB _) (.cells (oc x).toArray 32);exact ⟨(Blk.new w 32 (oc x).toArray).alloc _,h2,b1.alloc b1.size _⟩
theorem Sa (x:dX) (h4:x.kind=4) (w:World):Calls prog 33 #[ov x] w (dM w (.bool (decide (x=iY x) && rightS x.node))):=by
 obtain ⟨gH,fD,hb⟩:=sF x (iY x) w;obtain ⟨p0,p1,p2,p3,p4,p5,p6,p7,p8,p9,zo⟩:=dx gH;obtain ⟨q0,q1,q2,q3,q4,q5,q6,q7,q8,q9,qE⟩:=dx fD;have he:=E7 x (iY x);obtain ⟨w2,eV⟩:=dG ((w.alloc (.cells (oc x).toArray 32)).alloc (.cells (oc (iY x)).toArray 32));rw [<-eV] at gH fD hb p0 p1 p2 p3 p4 p5 p6 p7 p8 p9 zo q0 q1 q2 q3 q4 q5 q6 q7 q8 q9 qE;have k1:(x.kind ==1)=false:=by rw [beq_eq_false_iff_ne];omega
 have k2:(x.kind ==2)=false:=by rw [beq_eq_false_iff_ne];omega
 have k3:(x.kind ==3)=false:=by rw [beq_eq_false_iff_ne];omega
 have k4:(x.kind ==4)=true:=by rw [beq_iff_eq];exact h4
 have HR:=dL (lH x.node w2);unfold oc iY at eV;unfold iY at q0 q1 q2 q3 q4 q5 q6 q7 q8 q9 qE;unfold ov iY at he;have Jb:(bs []:ByteArray)= ⟨#[]⟩:=rfl;simp only [Jb] at eV q9 qE he;have HW:=dL eV;have HB:=dL hb;have pK:dK ((decide (x= ⟨x.st,x.seq,x.kind,x.node,false,(0,0),[],[]⟩))=decide (x=iY x)):=rfl;obtain ⟨b,wC⟩:=dG (decide (x=iY x));simp only [pK.o,<-wC] at he;rw [<-wC];clear eV hb gH fD wC pK h4;unfold ov;cases b with
 |false=>
  go_enter func33,ntmps33;go_wp2_with fail;rw [<-HW.o];go_ret;exact ⟨rfl,HB.o⟩
 |true=>
  cases hr:rightS x.node with
  |true=>
   rw [hr] at HR;simp only [if_true] at HR;clear hr;go_enter func33,ntmps33;go_wp2_with fail;rw [<-HW.o];refine HR.o.mono ?_;rintro e w3 ⟨rfl,dn⟩;have eC:=dJ HB dn;clear dn;go_wp2_with fail;go_ret;exact ⟨rfl,eC.o⟩
  |false=>
   rw [hr] at HR;simp only [bp,if_false] at HR;clear hr;go_enter func33,ntmps33;go_wp2_with fail;rw [<-HW.o];refine HR.o.mono ?_;rintro e w3 ⟨rfl,dn⟩;have eC:=dJ HB dn;clear dn;go_wp2_with fail;go_ret;exact ⟨rfl,eC.o⟩
theorem Sb (x:dX) (h4:x.kind=3) (hm:x.mf.length<=9223372036854775807) (w:World):Calls prog 33 #[ov x] w (dM w (.bool (decide (x=qT x) && rightS x.node && decide (x.mf.length<=600)))):=by
 obtain ⟨gH,fD,hb⟩:=sF x (qT x) w;obtain ⟨p0,p1,p2,p3,p4,p5,p6,p7,p8,p9,zo⟩:=dx gH;obtain ⟨q0,q1,q2,q3,q4,q5,q6,q7,q8,q9,qE⟩:=dx fD;have he:=E7 x (qT x);obtain ⟨w2,eV⟩:=dG ((w.alloc (.cells (oc x).toArray 32)).alloc (.cells (oc (qT x)).toArray 32));rw [<-eV] at gH fD hb p0 p1 p2 p3 p4 p5 p6 p7 p8 p9 zo q0 q1 q2 q3 q4 q5 q6 q7 q8 q9 qE;have k1:(x.kind ==1)=false:=by rw [beq_eq_false_iff_ne];omega
 have k2:(x.kind ==2)=false:=by rw [beq_eq_false_iff_ne];omega
 have k3:(x.kind ==3)=true:=by rw [beq_iff_eq];exact h4
 have HR:=dL (lH x.node w2);unfold oc qT at eV;unfold qT at q0 q1 q2 q3 q4 q5 q6 q7 q8 q9 qE;unfold ov qT at he;have Jb:(bs []:ByteArray)= ⟨#[]⟩:=rfl;simp only [Jb] at eV q9 he;have HW:=dL eV;have HB:=dL hb;have pK:dK ((decide (x= ⟨x.st,x.seq,x.kind,x.node,false,(0,0),[],x.mf⟩))=decide (x=qT x)):=rfl;obtain ⟨b,wC⟩:=dG (decide (x=qT x));simp only [pK.o,<-wC] at he;rw [<-wC];clear eV hb gH fD wC pK h4;unfold ov;cases b with
 |false=>
  go_enter func33,ntmps33;go_wp2_with fail;rw [<-HW.o];go_ret;exact ⟨rfl,HB.o⟩
 |true=>
  cases hr:rightS x.node with
  |true=>
   rw [hr] at HR;simp only [if_true] at HR;clear hr;have hd:decide ((x.mf.length:Int)<=600)=decide (x.mf.length<=600):=decide_eq_decide.2 (by omega);have HD:=dL hd;clear hd;go_enter func33,ntmps33;go_wp2_with fail;rw [<-HW.o];refine HR.o.mono ?_;rintro e w3 ⟨rfl,dn⟩;have abJ:=dU dn (eB zo) zo;have eC:=dJ HB dn;clear dn;go_wp2_with fail;go_ret;exact ⟨by first|rfl|(rw [<-HD.o];rfl),eC.o⟩
  |false=>
   rw [hr] at HR;simp only [bp,if_false] at HR;clear hr;go_enter func33,ntmps33;go_wp2_with fail;rw [<-HW.o];refine HR.o.mono ?_;rintro e w3 ⟨rfl,dn⟩;have eC:=dJ HB dn;clear dn;go_wp2_with fail;go_ret;exact ⟨rfl,eC.o⟩
def KO (B:Nat) (x:dX) (w:World):Prop:=Blk w B 32 (oc x).toArray
variable {x:dX}
theorem KO.cells (h:KO B x w):w.cell? B=x.st.1/\w.cell? (Qc B 1)=x.st.2/\w.cell? (Qc B 6)=x.dir/\w.cell? (Qc B 7)=x.par.1/\w.cell? (Qc B 8)=x.par.2/\w.cell? (Qc B 9)=x.nm:=
 ⟨Blk.cell h 0,Blk.cell h 1,Blk.cell h 6,Blk.cell h 7,Blk.cell h 8,Blk.cell h 9⟩
theorem KO.drew (h:KO B x w):KO B x w.drew:=h
theorem KO.set (h:KO B x w) (j:Nat) (u:Value):KO B x (w.setCell ⟨B+1,j,none⟩ u):=Blk.far h (p:=⟨B+1,j,none⟩) (by show B≠B+1;omega) u
theorem Sc (x:dX) (h4:x.kind=2) (w:World):Calls prog 33 #[ov x] w (dM w (.bool (decide (x=sE x) && nY x.par && rightS x.node))):=by
 obtain ⟨gH,fD,hb⟩:=sF x (iY x) w;obtain ⟨p0,p1,p2,p3,p4,p5,p6,p7,p8,p9,zo⟩:=dx gH;have he:=E7 x (sE x);obtain ⟨w2,eV⟩:=dG ((w.alloc (.cells (oc x).toArray 32)).alloc (.cells (oc (iY x)).toArray 32));rw [<-eV] at gH fD hb;have k1:(x.kind ==1)=false:=by rw [beq_eq_false_iff_ne];omega
 have k2:(x.kind ==2)=true:=by rw [beq_iff_eq];exact h4
 have q7:=(fD.cell 7);have q8:=(fD.cell 8);have q9:=(fD.cell 9);have f7:=(fD.frozen 7);have f8:=(fD.frozen 8);have f9:=(fD.frozen 9);unfold oc iY at eV q7 q8 q9;unfold oc at p0 p1 p2 p3 p4 p5 p6 p7 p8 p9 zo;unfold ov sE at he;have Jb:(bs []:ByteArray)= ⟨#[]⟩:=rfl;simp only [aO,aT,aZ] at q7 q8 q9;simp only [Jb] at eV he q9;have HW:=dL eV;have HB:=dL hb;have HK:dK (KO w x w2):=gH;have eA:=dL fD;have pK:dK ((decide (x= ⟨x.st,x.seq,x.kind,x.node,false,x.par,x.nm,[]⟩))=decide (x=sE x)):=rfl;obtain ⟨b,wC⟩:=dG (decide (x=sE x));simp only [pK.o,<-wC] at he;rw [<-wC];clear eV hb gH fD wC pK h4;unfold ov;go_enter func33,ntmps33;go_wp2_with fail;rw [<-HW.o];clear p0 p1 p2 p3 p4 p5 p6 p7 p8 p9 zo;go_region_held3 (λw'=>w'.cell? w=x.st.1/\w'.cell? (Qc w 1)=x.st.2/\w'.cell? (Qc w 6)=x.dir/\w'.cell? (Qc w 7)=x.par.1/\w'.cell? (Qc w 8)=x.par.2/\w'.cell? (Qc w 9)=x.nm)
  (exact KO.cells (by repeat (first|exact HK.o|apply KO.drew|apply KO.set)))
  (first|fail)
 rename_i dZ;clear dZ q7 q8 q9 f7 f8 f9;have oD:Blk (((w2.setCell ⟨w.heap.size+1,7,none⟩ x.par.1).setCell ⟨w.heap.size+1,8,none⟩ x.par.2).setCell ⟨w.heap.size+1,9,none⟩ x.nm).drew w 32 (oc x).toArray:=((HK.o.set 7 _).set 8 _).set 9 _;have Tm:Blk (((w2.setCell ⟨w.heap.size+1,7,none⟩ x.par.1).setCell ⟨w.heap.size+1,8,none⟩ x.par.2).setCell ⟨w.heap.size+1,9,none⟩ x.nm).drew (w.heap.size+1) 32 (oc (sE x)).toArray:=by
  refine Blk.drew ?_;have:=Blk.set_ (Blk.set_ (Blk.set_ eA.o 7 (.int .i64 x.par.1)) 8 (.int .i64 x.par.2)) 9 (.string (bs x.nm));simpa [oc,iY,sE] using this
 have dn:Below w w (((w2.setCell ⟨w.heap.size+1,7,none⟩ x.par.1).setCell ⟨w.heap.size+1,8,none⟩ x.par.2).setCell ⟨w.heap.size+1,9,none⟩ x.nm).drew:=
  (((HB.o.setCell (p:=⟨w.heap.size+1,7,none⟩) (bF _) _).setCell (p:=⟨w.heap.size+1,8,none⟩) (bF _) _).setCell (p:=⟨w.heap.size+1,9,none⟩) (bF _) _).drew
 generalize (((w2.setCell ⟨w.heap.size+1,7,none⟩ x.par.1).setCell ⟨w.heap.size+1,8,none⟩ x.par.2).setCell ⟨w.heap.size+1,9,none⟩ x.nm).drew=w3 at*;obtain ⟨p0,p1,p2,p3,p4,p5,p6,p7,p8,p9,zo⟩:=dx oD;obtain ⟨q0,q1,q2,q3,q4,q5,q6,q7,q8,q9,qE⟩:=dx Tm;unfold sE at q0 q1 q2 q3 q4 q5 q6 q7 q8 q9 qE;simp only [Jb] at qE;have eC:=dL dn;have HP:=dL (nZ x.par w3);clear HK eA oD Tm dn HW HB;cases b with
 |false=>
  go_wp2_with fail;go_ret;exact ⟨rfl,eC.o⟩
 |true=>
  cases hpl:nY x.par with
  |false=>
   rw [hpl] at HP;have Cs:=dL hpl;clear hpl;go_wp2_with fail;refine HP.o.mono ?_;rintro e w4 ⟨rfl,hb4⟩;have fI:=dJ eC hb4;clear hb4;go_wp2_with fail;go_ret;exact ⟨by rw [Cs.o];rfl,fI.o⟩
  |true=>
   rw [hpl] at HP;have Cs:=dL hpl;clear hpl;go_wp2_with fail;refine HP.o.mono ?_;rintro e w4 ⟨rfl,hb4⟩;have fI:=dJ eC hb4;have p4':=dU hb4 (eB p4) p4;have p5':=dU hb4 (eB p5) p5;have HR:=dL (lH x.node w4);clear hb4;cases hr:rightS x.node with
   |true=>
    rw [hr] at HR;simp only [if_true] at HR;have HRr:=dL hr;clear hr;go_wp2_with fail;refine HR.o.mono ?_;rintro e w5 ⟨rfl,ef⟩;have fk:=dJ fI ef;clear ef;go_wp2_with fail;go_ret;exact ⟨by rw [Cs.o,HRr.o];rfl,fk.o⟩
   |false=>
    rw [hr] at HR;simp only [bp,if_false] at HR;have HRr:=dL hr;clear hr;go_wp2_with fail;refine HR.o.mono ?_;rintro e w5 ⟨rfl,ef⟩;have fk:=dJ fI ef;clear ef;go_wp2_with fail;go_ret;exact ⟨by rw [Cs.o,HRr.o];rfl,fk.o⟩
theorem E8 (a b:St) (w:World):(binOp .neq 30 (.agg #[a.1,a.2]) (.agg #[b.1,b.2])).run prog w=.ok (.bool (!decide (a=b))) w:=by
 simp [go_sem];by_cases e1:a.1=b.1
 ·by_cases e2:a.2=b.2
  ·have:a=b:=Prod.ext e1 e2
   subst this;simp
  ·have:a≠b:=λh=>e2 (by rw [h])
   simp [e1,e2,this]
 ·have:a≠b:=λh=>e1 (by rw [h])
  simp [e1,this]
structure KP (B:Nat) (x:dX) (w:World):Prop where
 blk:Blk w B 32 (oc x).toArray
theorem KP.cells (h:KP B x w):w.cell? B=x.st.1/\w.cell? (Qc B 1)=x.st.2/\w.cell? (Qc B 6)=x.dir/\w.cell? (Qc B 7)=x.par.1/\w.cell? (Qc B 8)=x.par.2/\w.cell? (Qc B 9)=x.nm:=
 ⟨Blk.cell h.blk 0,Blk.cell h.blk 1,Blk.cell h.blk 6,Blk.cell h.blk 7,Blk.cell h.blk 8,Blk.cell h.blk 9⟩
theorem KP.drew (h:KP B x w):KP B x w.drew:=⟨h.blk⟩
theorem KP.set (h:KP B x w) (j:Nat) (u:Value):KP B x (w.setCell ⟨B+1,j,none⟩ u):=⟨Blk.far h.blk (p:=⟨B+1,j,none⟩) (by show B≠B+1;omega) u⟩
theorem Sd (x:dX) (h4:x.kind=1) (hm:x.mf.length<=9223372036854775807) (w:World):Calls prog 33 #[ov x] w (dM w (.bool (decide (x=xS x) && nY x.par && !decide (x.par=x.node) && decide (x.mf.length<=600)))):=by
 obtain ⟨gH,fD,hb⟩:=sF x (iY x) w;obtain ⟨p0,p1,p2,p3,p4,p5,p6,p7,p8,p9,zo⟩:=dx gH;have he:=E7 x (xS x);have hne:=E8 x.par x.node;obtain ⟨w2,eV⟩:=dG ((w.alloc (.cells (oc x).toArray 32)).alloc (.cells (oc (iY x)).toArray 32));rw [<-eV] at gH fD hb;have k1:(x.kind ==1)=true:=by rw [beq_iff_eq];exact h4
 have q4:=(fD.cell 4);have q5:=(fD.cell 5);have q6:=(fD.cell 6);have q7:=(fD.cell 7);have q8:=(fD.cell 8);have q9:=(fD.cell 9);have f4:=(fD.frozen 4);have f5:=(fD.frozen 5);have f6:=(fD.frozen 6);have f7:=(fD.frozen 7);have f8:=(fD.frozen 8);have f9:=(fD.frozen 9);unfold oc iY at eV q4 q5 q6 q7 q8 q9;unfold oc at p0 p1 p2 p3 p4 p5 p6 p7 p8 p9 zo;unfold ov xS at he;have Jb:(bs []:ByteArray)= ⟨#[]⟩:=rfl;simp only [aO,aT,aZ] at q4 q5 q6 q7 q8 q9;simp only [Jb] at eV q9;have HW:=dL eV;have HB:=dL hb;have HK:dK (KP w x w2):=⟨gH⟩;have eA:=dL fD;have pK:dK ((decide (x= ⟨x.st,x.seq,x.kind,x.st,x.dir,x.par,x.nm,if x.dir then [] else x.mf⟩))=decide (x=xS x)):=rfl;obtain ⟨b,wC⟩:=dG (decide (x=xS x));obtain ⟨bn,Yf⟩:=dG (decide (x.par=x.node));simp only [pK.o,<-wC] at he;simp only [<-Yf] at hne;rw [<-wC,<-Yf];clear eV hb gH fD wC pK h4 Yf;unfold ov;go_enter func33,ntmps33;go_wp2_with fail;rw [<-HW.o];clear p0 p1 p2 p3 p4 p5 p6 p7 p8 p9 zo;go_region_held3 (λw'=>w'.cell? w=x.st.1/\w'.cell? (Qc w 1)=x.st.2/\w'.cell? (Qc w 6)=x.dir/\w'.cell? (Qc w 7)=x.par.1/\w'.cell? (Qc w 8)=x.par.2/\w'.cell? (Qc w 9)=x.nm)
  (exact KP.cells (by repeat (with_reducible first|exact HK.o|apply KP.drew|apply KP.set)))
  (first|fail)
 rename_i dZ;clear dZ q4 q5 q6 q7 q8 q9 f4 f5 f6 f7 f8 f9;have oD:KP w x ((((((w2.setCell ⟨w.heap.size+1,4,none⟩ x.st.1).setCell ⟨w.heap.size+1,5,none⟩ x.st.2).setCell ⟨w.heap.size+1,6,none⟩ x.dir).setCell ⟨w.heap.size+1,7,none⟩ x.par.1).setCell ⟨w.heap.size+1,8,none⟩ x.par.2).setCell ⟨w.heap.size+1,9,none⟩ x.nm).drew:=by repeat (with_reducible first|exact HK.o|apply KP.drew|apply KP.set)
 have Tm:Blk ((((((w2.setCell ⟨w.heap.size+1,4,none⟩ x.st.1).setCell ⟨w.heap.size+1,5,none⟩ x.st.2).setCell ⟨w.heap.size+1,6,none⟩ x.dir).setCell ⟨w.heap.size+1,7,none⟩ x.par.1).setCell ⟨w.heap.size+1,8,none⟩ x.par.2).setCell ⟨w.heap.size+1,9,none⟩ x.nm).drew (w.heap.size+1) 32 (oc ⟨x.st,x.seq,x.kind,x.st,x.dir,x.par,x.nm,[]⟩).toArray:=by
  refine Blk.drew ?_;have:=Blk.set_ (Blk.set_ (Blk.set_ (Blk.set_ (Blk.set_ (Blk.set_ eA.o 4 (.int .i64 x.st.1)) 5 (.int .i64 x.st.2)) 6 (.bool x.dir)) 7 (.int .i64 x.par.1)) 8 (.int .i64 x.par.2)) 9 (.string (bs x.nm));simpa [oc,iY] using this
 have dn:Below w w ((((((w2.setCell ⟨w.heap.size+1,4,none⟩ x.st.1).setCell ⟨w.heap.size+1,5,none⟩ x.st.2).setCell ⟨w.heap.size+1,6,none⟩ x.dir).setCell ⟨w.heap.size+1,7,none⟩ x.par.1).setCell ⟨w.heap.size+1,8,none⟩ x.par.2).setCell ⟨w.heap.size+1,9,none⟩ x.nm).drew:=
  ((((((HB.o.setCell (p:=⟨w.heap.size+1,4,none⟩) (bF _) _).setCell (p:=⟨w.heap.size+1,5,none⟩) (bF _) _).setCell (p:=⟨w.heap.size+1,6,none⟩) (bF _) _).setCell (p:=⟨w.heap.size+1,7,none⟩) (bF _) _).setCell (p:=⟨w.heap.size+1,8,none⟩) (bF _) _).setCell (p:=⟨w.heap.size+1,9,none⟩) (bF _) _).drew
 generalize ((((((w2.setCell ⟨w.heap.size+1,4,none⟩ x.st.1).setCell ⟨w.heap.size+1,5,none⟩ x.st.2).setCell ⟨w.heap.size+1,6,none⟩ x.dir).setCell ⟨w.heap.size+1,7,none⟩ x.par.1).setCell ⟨w.heap.size+1,8,none⟩ x.par.2).setCell ⟨w.heap.size+1,9,none⟩ x.nm).drew=w3 at*;have Tn:KP w x (w3.setCell ⟨w.heap.size+1,10,none⟩ x.mf):=oD.set 10 _;have hb4:Below w w (w3.setCell ⟨w.heap.size+1,10,none⟩ x.mf):=dn.setCell (p:=⟨w.heap.size+1,10,none⟩) (bF _) _;have hW4:Blk (w3.setCell ⟨w.heap.size+1,10,none⟩ x.mf) (w.heap.size+1) 32 (oc ⟨x.st,x.seq,x.kind,x.st,x.dir,x.par,x.nm,x.mf⟩).toArray:=by
  have:=Blk.set_ Tm 10 (.string (bs x.mf));simpa [oc] using this
 have f10:=Tm.frozen 10;have abK:decide ((x.mf.length:Int)<=600)=decide (x.mf.length<=600):=decide_eq_decide.2 (by omega);have HD:=dL abK;obtain ⟨d,hd⟩:=dG x.dir;simp only [<-hd] at he;clear abK HK eA HW HB;cases d with
 |true=>
  obtain ⟨p0,p1,p2,p3,p4,p5,p6,p7,p8,p9,zo⟩:=dx oD.blk;obtain ⟨q0,q1,q2,q3,q4,q5,q6,q7,q8,q9,qE⟩:=dx Tm;simp only [<-hd] at p6 q6;simp only [Jb] at qE;simp only [if_true,Jb] at he;have eC:=dL dn;have HP:=dL (nZ x.par w3);clear oD Tm dn Tn hW4 hb4 f10 hd;cases b with
  |false=>
   go_wp2_with fail;go_ret;exact ⟨rfl,eC.o⟩
  |true=>
   cases hpl:nY x.par with
   |false=>
    rw [hpl] at HP;have Cs:=dL hpl;clear hpl;go_wp2_with fail;refine HP.o.mono ?_;rintro e w5 ⟨rfl,ef⟩;have fk:=dJ eC ef;clear ef;go_wp2_with fail;go_ret;exact ⟨by rw [Cs.o];rfl,fk.o⟩
   |true=>
    rw [hpl] at HP;have Cs:=dL hpl;clear hpl;go_wp2_with fail;refine HP.o.mono ?_;rintro e w5 ⟨rfl,ef⟩;have p4':=dU ef (eB p4) p4;have p5':=dU ef (eB p5) p5;have p7':=dU ef (eB p7) p7;have p8':=dU ef (eB p8) p8;have abJ:=dU ef (eB zo) zo;have fk:=dJ eC ef;clear ef;cases bn with
    |true=>
     go_wp2_with fail;go_ret;exact ⟨by rw [Cs.o];rfl,fk.o⟩
    |false=>
     go_wp2_with fail;go_ret;exact ⟨by rw [Cs.o,<-HD.o];rfl,fk.o⟩
 |false=>
  have z4:=dL (dx Tn.blk);obtain ⟨p0,p1,p2,p3,p4,p5,p6,p7,p8,p9,zo⟩:=dx oD.blk;obtain ⟨q0,q1,q2,q3,q4,q5,q6,q7,q8,q9,qE⟩:=dx Tm;simp only [<-hd] at p6 q6;simp only [bp,if_false] at he;have eC:=dL hb4;have HP:=dL (nZ x.par (w3.setCell ⟨w.heap.size+1,10,none⟩ x.mf));clear oD Tm dn Tn hW4 hb4 hd;cases b with
  |false=>
   go_wp2_with fail;go_ret;exact ⟨rfl,eC.o⟩
  |true=>
   cases hpl:nY x.par with
   |false=>
    rw [hpl] at HP;have Cs:=dL hpl;clear hpl;go_wp2_with fail;refine HP.o.mono ?_;rintro e w5 ⟨rfl,ef⟩;have fk:=dJ eC ef;clear ef;go_wp2_with fail;go_ret;exact ⟨by rw [Cs.o];rfl,fk.o⟩
   |true=>
    rw [hpl] at HP;have Cs:=dL hpl;clear hpl;go_wp2_with fail;refine HP.o.mono ?_;rintro e w5 ⟨rfl,ef⟩;obtain ⟨-,-,-,-,p4w,p5w,-,p7w,p8w,-,Yg⟩:=z4.o;have p4':=dU ef (eB p4w) p4w;have p5':=dU ef (eB p5w) p5w;have p7':=dU ef (eB p7w) p7w;have p8':=dU ef (eB p8w) p8w;have abJ:=dU ef (eB Yg) Yg;clear p4w p5w p7w p8w Yg p0 p1 p2 p3 p4 p5 p6 p7 p8 p9 zo q0 q1 q2 q3 q4 q5 q6 q7 q8 q9 qE f10;have fk:=dJ eC ef;clear ef;cases bn with
    |true=>
     go_wp2_with fail;go_ret;exact ⟨by rw [Cs.o];rfl,fk.o⟩
    |false=>
     go_wp2_with fail;go_ret;exact ⟨by rw [Cs.o,<-HD.o];rfl,fk.o⟩
theorem Se (x:dX) (h1:x.kind≠1) (h2:x.kind≠2) (h3:x.kind≠3) (h4:x.kind≠4) (w:World):Calls prog 33 #[ov x] w (dM w (.bool false)):=by
 obtain ⟨gH,fD,hb⟩:=sF x (iY x) w;obtain ⟨p0,p1,p2,p3,p4,p5,p6,p7,p8,p9,zo⟩:=dx gH;obtain ⟨w2,eV⟩:=dG ((w.alloc (.cells (oc x).toArray 32)).alloc (.cells (oc (iY x)).toArray 32));rw [<-eV] at gH fD hb p0 p1 p2 p3 p4 p5 p6 p7 p8 p9 zo;have k1:(x.kind ==1)=false:=by rw [beq_eq_false_iff_ne];exact h1
 have k2:(x.kind ==2)=false:=by rw [beq_eq_false_iff_ne];exact h2
 have k3:(x.kind ==3)=false:=by rw [beq_eq_false_iff_ne];exact h3
 have k4:(x.kind ==4)=false:=by rw [beq_eq_false_iff_ne];exact h4
 unfold oc iY at eV;have Jb:(bs []:ByteArray)= ⟨#[]⟩:=rfl;simp only [Jb] at eV;have HW:=dL eV;have HB:=dL hb;clear eV hb gH fD h1 h2 h3 h4;unfold ov;go_enter func33,ntmps33;go_wp2_with fail;rw [<-HW.o];go_ret;exact ⟨rfl,HB.o⟩
theorem GR (x:dX) (hm:x.mf.length<=9223372036854775807) (w:World):Calls prog 33 #[ov x] w (dM w (.bool (shapedB x))):=by
 unfold shapedB;by_cases h1:x.kind=1
 ·rw [if_pos h1];exact Sd x h1 hm w
 rw [if_neg h1];by_cases h2:x.kind=2
 ·rw [if_pos h2];exact Sc x h2 w
 rw [if_neg h2];by_cases h3:x.kind=3
 ·rw [if_pos h3];exact Sb x h3 hm w
 rw [if_neg h3];by_cases h4:x.kind=4
 ·rw [if_pos h4];exact Sa x h4 w
 rw [if_neg h4];exact Se x h1 h2 h3 h4 w
def seqB (x:dX):Bool:=decide (x.seq < 1) || decide (x.seq > 1099511627776)
def C0 (x:dX):Bool:=(decide (x.kind=1) || decide (x.kind=2)) && !rightN x.nm
def sG (x:dX):Int:=if !rightS x.st || seqB x then 20 else if C0 x then 23 else if !shapedB x then 22 else 0
theorem lM (x:dX) (hn:x.nm.length<=9223372036854775807) (hm:x.mf.length<=9223372036854775807) (w:World):Calls prog 8 #[ov x] w (dM w (.int .i64 (sG x))):=by
 have gH:=Blk.new w 32 (oc x).toArray;have hb:=(aC w w).alloc (aB _) (.cells (oc x).toArray 32);obtain ⟨p0,p1,p2,p3,p4,p5,p6,p7,p8,p9,zo⟩:=dx gH;obtain ⟨w2,eV⟩:=dG (w.alloc (.cells (oc x).toArray 32));rw [<-eV] at gH hb p0 p1 p2 p3 p4 p5 p6 p7 p8 p9 zo;have eR:=dL gH;have za:dK (sG x=if !rightS x.st || seqB x then 20 else if C0 x then 23 else if !shapedB x then 22 else 0):=rfl;have HS:=dL (lH x.st w2);unfold oc at eV;have HW:=dL eV;have HB:=dL hb;clear eV hb gH;obtain ⟨rc,hrc⟩:=dG (sG x);rw [<-hrc];rw [<-hrc] at za;unfold ov;clear hrc;cases hst:rightS x.st with
 |false=>
  rw [hst] at HS za;simp only [bp,if_false] at HS;clear hst;go_enter func8,ntmps8;go_wp2_with fail;rw [<-HW.o];refine HS.o.mono ?_;rintro e w3 ⟨rfl,dn⟩;have eC:=dJ HB dn;clear dn;go_wp2_with fail;go_ret;exact ⟨by rw [za.o];rfl,eC.o⟩
 |true=>
  rw [hst] at HS za;simp only [if_true] at HS;clear hst;by_cases yx:seqB x=true
  ·rw [yx] at za
   have hh:decide (x.seq < 1)=true\/(decide (x.seq < 1)=false/\decide (x.seq > 1099511627776)=true):=by
    unfold seqB at yx;cases h1:decide (x.seq < 1)
    ·rw [h1] at yx;exact Or.inr ⟨rfl,by simpa using yx⟩
    ·exact Or.inl rfl
   clear yx;rcases hh with h1| ⟨h1,h2⟩
   ·go_enter func8,ntmps8
    go_wp2_with fail;rw [<-HW.o];refine HS.o.mono ?_;rintro e w3 ⟨rfl,dn⟩;have p2':=dU dn (eB p2) p2;have eC:=dJ HB dn;clear dn;go_wp2_with fail;go_ret;exact ⟨by rw [za.o];rfl,eC.o⟩
   ·go_enter func8,ntmps8
    go_wp2_with fail;rw [<-HW.o];refine HS.o.mono ?_;rintro e w3 ⟨rfl,dn⟩;have p2':=dU dn (eB p2) p2;have eC:=dJ HB dn;clear dn;go_wp2_with fail;go_ret;exact ⟨by rw [za.o];rfl,eC.o⟩
  ·have F6:seqB x=false:=by simpa using yx
   rw [F6] at za;have h1:decide (x.seq < 1)=false:=by unfold seqB at F6;simp only [Bool.or_eq_false_iff] at F6;exact F6.1
   have h2:decide (x.seq > 1099511627776)=false:=by unfold seqB at F6;simp only [Bool.or_eq_false_iff] at F6;exact F6.2
   clear yx F6;have HN:=λw3=>dL (mY x.nm hn w3)
   have yQ:=λw3=>dL (GR x hm w3)
   obtain ⟨nb,hnb⟩:=dG (C0 x);obtain ⟨sb,hsb⟩:=dG (shapedB x);simp only [<-hsb] at yQ;rw [<-hnb,<-hsb] at za;unfold ov at yQ;clear hn hm hsb;have HNb:=dL hnb;clear hnb;have fin:∀(v:Bool),True:=λ_=>trivial
   clear fin;by_cases hk:x.kind=1\/x.kind=2
   ·obtain ⟨ri,hri⟩:=dG (mM x.nm)
    have abL:(ri ==0)= !nb:=by
     rw [hri,HNb.o];unfold C0;have:(decide (x.kind=1) || decide (x.kind=2))=true:=by simpa using hk
     rw [this,Bool.true_and];cases h:rightN x.nm
     ·rw [oZ h];rfl
     ·rw [mW h];rfl
    simp only [<-hri] at HN;clear hri HNb;have kk:(x.kind ==1)=true\/((x.kind ==1)=false/\(x.kind ==2)=true):=by
     rcases hk with h|h
     ·exact Or.inl (by rw [beq_iff_eq];exact h)
     ·exact Or.inr ⟨by rw [beq_eq_false_iff_ne];omega,by rw [beq_iff_eq];exact h⟩
    clear hk;cases nb with
    |true=>
     simp only [Bool.not_true] at abL;rcases kk with k1| ⟨k1,k2⟩
     all_goals
      go_enter func8,ntmps8;go_wp2_with fail;rw [<-HW.o];refine HS.o.mono ?_;rintro e w3 ⟨rfl,dn⟩;have p2':=dU dn (eB p2) p2;have p3':=dU dn (eB p3) p3;have p9':=dU dn (eB p9) p9;have eC:=dJ HB dn;clear dn;go_wp2_with fail;refine (HN w3).o.mono ?_;rintro e w4 ⟨rfl,hb4⟩;have fI:=dJ eC hb4;clear hb4;go_wp2_with fail;go_ret;exact ⟨by rw [za.o];rfl,fI.o⟩
    |false=>
     simp only [Bool.not_false] at abL;rcases kk with k1| ⟨k1,k2⟩
     all_goals
      go_enter func8,ntmps8;go_wp2_with fail;rw [<-HW.o];refine HS.o.mono ?_;rintro e w3 ⟨rfl,dn⟩;have p2':=dU dn (eB p2) p2;have p3':=dU dn (eB p3) p3;have p9':=dU dn (eB p9) p9;have eC:=dJ HB dn;have QV:=dL (Blk.below eR.o dn eR.o.lt);clear dn;go_wp2_with fail;refine (HN w3).o.mono ?_;rintro e w4 ⟨rfl,hb4⟩;obtain ⟨s0,s1,s2,s3,s4,s5,s6,s7,s8,s9,MI⟩:=dx (Blk.below QV.o hb4 QV.o.lt);have fI:=dJ eC hb4;clear hb4;go_wp2_with fail;refine (yQ w4).o.mono ?_;rintro e w5 ⟨rfl,ef⟩;have fk:=dJ fI ef;clear ef;cases sb with
      |true=>
       go_wp2_with fail;go_ret;exact ⟨by rw [za.o];rfl,fk.o⟩
      |false=>
       go_wp2_with fail;go_ret;exact ⟨by rw [za.o];rfl,fk.o⟩
   ·have hnf:nb=false:=by
     rw [HNb.o];unfold C0;have:(decide (x.kind=1) || decide (x.kind=2))=false:=by simpa using hk
     rw [this,Bool.false_and]
    subst hnf;have k1:(x.kind ==1)=false:=by rw [beq_eq_false_iff_ne];exact λh=>hk (Or.inl h)
    have k2:(x.kind ==2)=false:=by rw [beq_eq_false_iff_ne];exact λh=>hk (Or.inr h)
    clear hk HN HNb;go_enter func8,ntmps8;go_wp2_with fail;rw [<-HW.o];refine HS.o.mono ?_;rintro e w3 ⟨rfl,dn⟩;obtain ⟨s0,s1,s2,s3,s4,s5,s6,s7,s8,s9,MI⟩:=dx (Blk.below eR.o dn eR.o.lt);have eC:=dJ HB dn;clear dn;go_wp2_with fail;refine (yQ w3).o.mono ?_;rintro e w5 ⟨rfl,ef⟩;have fk:=dJ eC ef;clear ef;cases sb with
    |true=>
     go_wp2_with fail;go_ret;exact ⟨by rw [za.o];rfl,fk.o⟩
    |false=>
     go_wp2_with fail;go_ret;exact ⟨by rw [za.o];rfl,fk.o⟩
end
end Go.Proofs.YtgdaahffmcfhpaaGreatDoor
