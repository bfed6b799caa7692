/- Lemmas on the way: Vx Fi Fj. -/
import Derived.Laws.EntriesVeiled
import Derived.Test.YtgdaahffmcfhpaaGreatDoorT21
import Derived.Test.YtgdaahffmcfhpaaGreatDoorT00
set_option maxRecDepth 100000
set_option maxHeartbeats 8000000
namespace Go.Proofs.YtgdaahffmcfhpaaGreatDoor
open Tryz
section
open Go.RowKit Go.Sort
attribute [local go_sem] dO dL dQ dM
theorem JE {α:Type} [Inhabited α] {lt:α->α->Bool} (hS:SWO lt) (d:Array α):(ow lt d).size=d.size:=(yW hS d).1.1
theorem vi (l:List It):(jg l).length=l.length:=(iT l).1.length_eq
def ItC (cs:List Value) (x:It):Prop:=cs=ic x/\x.path.length<=9223372036854775807/\x.mf.length<=9223372036854775807
abbrev AM (w:World) (A:Option Addr) (n c:Nat) (xs:List It):Prop:=Sl w 6 ItC A n c xs
theorem tG:∀{ps:List By},(∀p∈ps,p.length<=24)->(eA ps).length<=25*ps.length
 | [],_=>by simp [eA]
 |p :: ps,h=>by
  have h1:=h p (by simp);have h2:=tG (ps:=ps) (fun q hq=>h q (by simp [hq]));have e:eA (p :: ps)=p++47 :: eA ps:=by simp [eA]
  rw [e];simp only [aO,aQ];omega
theorem M7 {xs:List Nd} (hx:xs.length<=80) (hr:∀n∈xs,rightN n.nm=true) (hs:Short xs) {out:List It} (h:nM xs=some out):∀it∈out,it.path.length<=9223372036854775807/\it.mf.length<=9223372036854775807:=fun it hi=>by
 obtain ⟨s,ps,n,g,p1,p2,p3,p4,_⟩:=(uU h).2 it hi;obtain ⟨k1,k2,k3⟩:=qh p2;have h1:=tG (ps:=ps) (fun p hp=>(fR.1 (p1.right hx hr p hp)).2.1);have h2:=(fR.1 (iS hx hr _ k3)).2.1;have h3:=(hs n k1).2;rw [p3];refine ⟨?_,h3⟩;show (eA ps++g).length<=_;rw [aO];omega
theorem F5 (w:World):(Instr.makeMap 96 none).run prog w=.ok (.map (some w.heap.size)) (w.alloc (.map #[] 0)):=by simp [Instr.makeMap,go_sem]
def M8 (xs:List Nd) (w:World) (e:Ending) (w':World):Prop:=
 Below w.heap.size w w'/\((∃ys A c,iC xs=some ys/\e=.returned (.tuple #[.slice A ys.length c,.int .i64 0])/\AM w' A ys.length c ys)\/(iC xs=none/\e=.returned (.tuple #[.slice none 0 0,.int .i64 40])))
def Ti (w:World) (nv:Value):World:=((((w.alloc (.cells #[nv] 33)).alloc (.map #[] 0)).alloc (.cells #[.map (some (w.heap.size+1))] 96)).alloc (.cells #[.slice none 0 0] 40)).alloc (.cells #[nx w.heap.size (w.heap.size+1+1) (w.heap.size+1+1+1) (w.heap.size+1+1+1+1)] 97)
theorem Tj (w:World) (nv:Value):Blk (Ti w nv) (w.heap.size+1+1+1+1) 97 #[nx w.heap.size (w.heap.size+1+1) (w.heap.size+1+1+1) (w.heap.size+1+1+1+1)]:=by
 have h:=Blk.new ((((w.alloc (.cells #[nv] 33)).alloc (.map #[] 0)).alloc (.cells #[.map (some (w.heap.size+1))] 96)).alloc (.cells #[.slice none 0 0] 40)) 97 #[nx w.heap.size (w.heap.size+1+1) (w.heap.size+1+1+1) (w.heap.size+1+1+1+1)];simp only [World.alloc,aZ] at h;exact h
theorem F6 (w:World) (nv:Value):VI w (Ti w nv) w.heap.size (w.heap.size+1+1) (w.heap.size+1+1+1) (w.heap.size+1+1+1+1) (w.heap.size+1) (w.heap.size+1+1+1+1+1) nv (.slice none 0 0) ⟨[],[]⟩:=by
 have z1:(w.alloc (.cells #[nv] 33)).heap.size=w.heap.size+1:=aZ _;have z2:((w.alloc (.cells #[nv] 33)).alloc (.map #[] 0)).heap.size=w.heap.size+1+1:=by rw [<-z1];exact aZ _
 have z3:(((w.alloc (.cells #[nv] 33)).alloc (.map #[] 0)).alloc (.cells #[.map (some (w.heap.size+1))] 96)).heap.size=w.heap.size+1+1+1:=by rw [<-z2];exact aZ _
 have z4:((((w.alloc (.cells #[nv] 33)).alloc (.map #[] 0)).alloc (.cells #[.map (some (w.heap.size+1))] 96)).alloc (.cells #[.slice none 0 0] 40)).heap.size=w.heap.size+1+1+1+1:=by rw [<-z3];exact aZ _
 have z5:(Ti w nv).heap.size=w.heap.size+1+1+1+1+1:=by unfold Ti;rw [<-z4];exact aZ _
 have n0:=(((Blk.new w 33 #[nv]).alloc (.map #[] 0)).alloc (.cells #[.map (some (w.heap.size+1))] 96)).alloc (.cells #[.slice none 0 0] 40)|>.alloc (.cells #[nx w.heap.size (w.heap.size+1+1) (w.heap.size+1+1+1) (w.heap.size+1+1+1+1)] 97)
 have n2:=((Blk.new ((w.alloc (.cells #[nv] 33)).alloc (.map #[] 0)) 96 #[.map (some (w.heap.size+1))]).alloc (.cells #[.slice none 0 0] 40)).alloc (.cells #[nx w.heap.size (w.heap.size+1+1) (w.heap.size+1+1+1) (w.heap.size+1+1+1+1)] 97);have n3:=(Blk.new (((w.alloc (.cells #[nv] 33)).alloc (.map #[] 0)).alloc (.cells #[.map (some (w.heap.size+1))] 96)) 40 #[.slice none 0 0]).alloc (.cells #[nx w.heap.size (w.heap.size+1+1) (w.heap.size+1+1+1) (w.heap.size+1+1+1+1)] 97);have n4:=Tj w nv;have m1:=Met.new (w.alloc (.cells #[nv] 33));rw [z1] at m1;rw [z2] at n2;rw [z3] at n3;have m2:=((m1.heap (bE _ (.cells #[.map (some (w.heap.size+1))] 96) _ m1.lt)));have m3:=m2.heap (bE _ (.cells #[.slice none 0 0] 40) _ m2.lt);have m4:=m3.heap (bE _ (.cells #[nx w.heap.size (w.heap.size+1+1) (w.heap.size+1+1+1) (w.heap.size+1+1+1+1)] 97) _ m3.lt);have b0:Below w.heap.size w (Ti w nv):=by
  unfold Ti;have b1:=(aC w.heap.size w).alloc (aB _) (.cells #[nv] 33);have b2:=b1.alloc b1.size (.map #[] 0);have b3:=b2.alloc b2.size (.cells #[.map (some (w.heap.size+1))] 96);have b4:=b3.alloc b3.size (.cells #[.slice none 0 0] 40);exact b4.alloc b4.size (.cells #[nx w.heap.size (w.heap.size+1+1) (w.heap.size+1+1+1) (w.heap.size+1+1+1+1)] 97)
 exact ⟨b0,by omega,by omega,by rw [z5];exact aB _,n0,n2,n3,n4,m4,dN.nil_ _ _ _⟩
theorem vj (xs:List Nd) (A:Option Addr) (n c:Nat) (w:World) (hx:lq w A n c xs) (hl:xs.length<=80) (hr:∀x∈xs,rightN x.nm=true):
  Calls prog 13 #[.slice A n c] w (M8 xs w):=by
 have hm:=F5;have hsh:=hx.short;have hV:=F6 w (.slice A n c);have HD:=dH (M3 xs A n c w hx hl hr w.heap.size (w.heap.size+1+1) (w.heap.size+1+1+1) (w.heap.size+1+1+1+1) (w.heap.size+1) (w.heap.size+1+1+1+1+1) 16 0 rfl (0,0) [] _ _ _ (aT _) hV ⟨by simp,rfl,by simp⟩);rw [show (bs []:ByteArray)= ⟨#[]⟩ from rfl,show ((0:Nat):Int)=0 from rfl] at HD;have d0:=hV.db.cell 0;simp only [aP,aS] at d0;unfold Ti nx at*;have HVu:dG (nM xs=(ij xs 16 (0,0) [] ⟨[],[]⟩).map Vw.o):=rfl;have BD:dG (Short xs):=hsh;have HRn:dG (∀x∈xs,rightN x.nm=true):=hr;clear hV hx hsh hr;go_enter func13,ntmps13;go_wp2_with fail;refine HD.o.mono ?_;rintro e w2 (⟨v',u',hr',rfl,E7,eY,uj⟩| ⟨hr',rfl,dS⟩)
 ·have hu:nM xs=some v'.o:=by rw [HVu.o,hr'];rfl
  have hN:dG (iC xs=some (jg v'.o)):=by show _=_;unfold iC;rw [hu];rfl
  have hle:v'.o.length<=80:=aK eY.le hl;have hsI:=M7 hl HRn.o BD.o hu;have HSI:dG (∀it∈v'.o,it.path.length<=9223372036854775807/\it.mf.length<=9223372036854775807):=hsI;have o0:=E7.ob.cell 0;simp only [aP,aS] at o0;have HB:=dH E7.below;rcases E7.own.2 with ⟨XP,hl0⟩| ⟨g,cap,XP,hg1,hg2,hnc,hcm,_⟩
  ·have ho:v'.o=[]:=bH hl0
   have Dr:dG (iC xs=some []):=by show _=_;rw [hN.o,ho];exact congrArg some (List.perm_nil.1 (iT []).1)
   rw [XP] at o0;have HS:=dH (JD w2);clear hr' E7 eY uj XP hl0 ho hu hsI;go_wp2_with fail;refine HS.o.mono ?_;rintro e w3 ⟨rfl,rfl⟩;go_wp2_with fail;go_ret2;exact ⟨HB.o,.inl ⟨[],none,0,Dr.o,rfl,Sl.nil_⟩⟩
  ·have hown:=E7.own
   rw [XP] at o0 hown;have HS:=dH (JC _ g cap v'.o w2 hown (by omega));have hH:=yz hown;have HH:=dH hH;have HG:=dH hg2;have Us:dG (g≠w.heap.size+1+1+1):=by
    show _≠_;have:=E7.lt.2.2.1;omega
   have HGe:dG (w.heap.size<=g):=by show _<=_;have:=E7.lt.1;have:=E7.ge.1;omega
   have Bf:=E7.ob;rw [XP] at Bf;have HOB:=dH Bf;have HNC:=dH hnc;have HCM:=dH hcm;clear hr' E7 eY uj XP hown hH hu hsI hg1 hg2 hnc hcm Bf;go_wp2_with fail;refine HS.o.mono ?_;rintro e w3 ⟨rfl,hs3⟩;have oy:=JB hs3;have o3:=(HOB.o.grown oy (fun e=>Us.o (aa e).symm)).cell 0;simp only [aP,aS] at o3;have nZ:=dH (hs3.holds HG.o HH.o (by rw [JE Eh]));have dw:=dH (ef HB.o oy HGe.o HB.o.size);have Bd:=dH (hs3.lt HG.o);have abx:dG (AM w3 (some ⟨g,0,none⟩) (jg v'.o).length cap (jg v'.o)):=by
    have hlen:=vi v'.o;refine ⟨rfl,by rw [hlen];exact HNC.o,by have:=HCM.o;unfold maxLen at this;omega,fun i hi=>?_⟩;have hi':i < (ow pz v'.o.toArray).size:=hi;have hc:=HoldsK.cells nZ.o (fun x=>by simp [ic]) hi';have he:(ow pz v'.o.toArray)[i]! =(jg v'.o)[i]:=by rw [getElem!_pos _ i hi'];rfl
    rw [he] at hc;have hm:(jg v'.o)[i]∈v'.o:=(iT v'.o).1.mem_iff.1 (ag hi);refine ⟨g,0,ic (jg v'.o)[i],rfl,Bd.o,by simp [ic],⟨rfl,HSI.o _ hm⟩,fun j u hu=>?_⟩;have:=hc j u hu;rw [Addr.add_lit] at this;exact this
   have hlen:=dH (vi v'.o);clear hs3 oy;go_wp2_with fail;go_ret2;refine ⟨dw.o,.inl ⟨jg v'.o,_,cap,hN.o,?_,abx.o⟩⟩;rw [hlen.o];rfl
 ·have hN:dG (iC xs=none):=by show _=_;unfold iC;rw [HVu.o,hr'];rfl
  have HB:=dH dS;clear hr' dS;go_wp2_with fail;go_ret2;exact ⟨HB.o,.inr ⟨hN.o,rfl⟩⟩
end
section
open Go.RowKit
attribute [local go_sem] dO dL dQ dM
def iv (x:It):Value:=.agg #[.string (bs x.path),.int .i64 x.id.1,.int .i64 x.id.2,.bool x.dir,.bool false,.string (bs x.mf)]
def vk:It:=⟨[],(0,0),false,[]⟩
theorem AM.at_ {w:World} {A:Option Addr} {n c k:Nat} {xs:List It} (h:AM w A n c xs) (hk:k < xs.length):
  ∃b off,A=some ⟨b,off,none⟩/\b < w.heap.size/\w.cell? ⟨b,off+k*6,none⟩=some (.string (bs xs[k].path))/\w.cell? ⟨b,off+k*6+1,none⟩=some (.int .i64 xs[k].id.1)/\w.cell? ⟨b,off+k*6+2,none⟩=some (.int .i64 xs[k].id.2)/\
   w.cell? ⟨b,off+k*6+3,none⟩=some (.bool xs[k].dir)/\w.cell? ⟨b,off+k*6+4,none⟩=some (.bool false)/\w.cell? ⟨b,off+k*6+5,none⟩=some (.string (bs xs[k].mf)):=by
 obtain ⟨b,off,cs,e,hlt,hl,⟨rfl,_⟩,hc⟩:=h.4 k hk;exact ⟨b,off,e,hlt,hc 0 _ rfl,hc 1 _ rfl,hc 2 _ rfl,hc 3 _ rfl,hc 4 _ rfl,hc 5 _ rfl⟩
def kf (p:It->Bool) (xs:List It):Int:=match xs.findIdx? p with
 |some k=>k
 |none=>-1
theorem JF {p:It->Bool} {xs:List It} {k:Nat} (hk:k < xs.length) (h:p xs[k]=true) (ha:∀j (hj:j < xs.length),j < k->p xs[j]=false):kf p xs=k:=by
 have:xs.findIdx? p=some k:=bB.2 ⟨hk,h,fun j hj=>by rw [ha j (by omega) hj];decide⟩;unfold kf;rw [this]
theorem Cg {p:It->Bool} {xs:List It} (ha:∀j (hj:j < xs.length),p xs[j]=false):kf p xs= -1:=by
 have:xs.findIdx? p=none:=bP.2 fun x hx=>by
  obtain ⟨j,hj,rfl⟩:=bY.1 hx;exact ha j hj
 unfold kf;rw [this]
def kg (p:It->Bool) (xs:List It):It:=(xs.find? p).getD vk
def sB (p:It->Bool) (xs:List It):Bool:=(xs.find? p).isSome
theorem AN (p:It->Bool) (xs:List It):(∃(k:Nat) (hk:k < xs.length),kf p xs=k/\kg p xs=xs[k]/\sB p xs=true)\/(kf p xs= -1/\kg p xs=vk/\sB p xs=false):=by
 cases h:xs.findIdx? p with
 |none=>
  have hn:=bP.1 h;have hf:xs.find? p=none:=List.find?_eq_none.2 fun x hx=>by rw [hn x hx];decide
  exact .inr ⟨by unfold kf;rw [h],by unfold kg;rw [hf];rfl,by unfold sB;rw [hf];rfl⟩
 |some k=>
  obtain ⟨hk,hp,ha⟩:=bB.1 h;have hf:xs.find? p=some xs[k]:=by
   rw [List.find?_eq_some_iff_getElem];exact ⟨hp,k,hk,rfl,fun j hj=>by have:=ha j hj;simpa using this⟩
  exact .inl ⟨k,hk,by unfold kf;rw [h],by unfold kg;rw [hf];rfl,by unfold sB;rw [hf];rfl⟩
theorem M9 (g:Nat) (cb:Value) (p:It->Bool) (eg:∀args w,(callFunc g args).run prog w=.ok (.enter g args) w) (A:Option Addr) (n c:Nat) (xs:List It) (w:World) (hx:AM w A n c xs)
  (hcl:∀(x:It) (wr:World),Below w.heap.size w wr->Calls prog g #[iv x,cb] wr (dJ wr (.bool (p x)))):
  Calls prog 102 #[.slice A n c,.func (.func g) #[] #[cb]] w (dJ w (.int .i64 (kf p xs))):=by
 have hn:=hx.len;have qJ:=hx.max;have hle:=hx.le;have HX:=dH hx;have HC:dG (∀(x:It) (wr:World),Below w.heap.size w wr->Calls prog g #[iv x,cb] wr (dJ wr (.bool (p x)))):=hcl;clear hx hcl;go_enter func102,ntmps102;go_wp2_with fail;go_loopw [8] (fun i wr=>∃k:Nat,k<=xs.length/\i=.int .i64 k/\Below w.heap.size w wr/\∀j (hj:j < xs.length),j < k->p xs[j]=false) (fun i _=>xs.length - (intOf i).toNat)
 case atStart=>exact ⟨0,by omega,rfl,aC _ _,fun j _ h=>by omega⟩
 case round=>
  obtain ⟨k,hk,rfl,hb,hall⟩:=hrel;rcases aG k xs.length with hlt|hge
  ·obtain ⟨b,off,rfl,jY,c0,c1,c2,c3,c4,c5⟩:=AM.at_ (HX.o.below hb) hlt
   have HA:=dH hall;have hcl:=HC.o xs[k] wr hb;obtain ⟨x,hx⟩:∃x,xs[k]=x:=⟨_,rfl⟩;rw [hx] at c0 c1 c2 c3 c5 hcl;unfold iv at hcl;have BA:=dH hcl;have tV:=dH hx;have HB:=dH hb;have hki:(k:Int) < (n:Int):=by omega
   clear hall hx hb hcl;go_wp2_with fail;refine BA.o.mono ?_;rintro e w2 ⟨rfl,dS⟩;have di:=HB.o.trans (dS.mono HB.o.size);cases hc:p x with
   |true=>
    go_wp2_with fail;have eC:kf p xs=k:=JF hlt (by rw [tV.o];exact hc) HA.o;go_ret;exact ⟨by rw [eC];rfl,di⟩
   |false=>
    go_wp2_with fail;exact ⟨⟨k+1,by omega,by go_num,di,fun j hj hjk=>by
     by_cases e:j=k
     ·subst e;rw [tV.o];exact hc
     ·exact HA.o j hj (by omega)⟩,by simp [intOf];omega⟩
  ·have hkn:¬ (k:Int) < (n:Int):=by omega
   have eC:kf p xs= -1:=Cg fun j hj=>hall j hj (by omega)
   clear hall;go_wp2_with fail;go_ret;exact ⟨rfl,hb⟩
theorem MA:∀args w,(callFunc 55 args).run prog w=.ok (.enter 55 args) w:=enters_of func55 (by decide) rfl
theorem JG:∀args w,(callFunc 137 args).run prog w=.ok (.enter 137 args) w:=enters_of func137 (by decide) rfl
def oE (s:St) (x:It):Bool:=decide (x.id=s)
def oF (p:By) (x:It):Bool:=decide (x.path=p)
theorem QL (q:Nat) (s:St) (x:It) (w:World) (hq:w.cell? ⟨q,0,none⟩=some (.int .i64 s.1)) (hq1:w.cell? ⟨q,1,none⟩=some (.int .i64 s.2)):
  Calls prog 55 #[iv x,.pointer (some ⟨q,0,none⟩)] w (dJ w (.bool (oE s x))):=by
 have hl:=dn hq;obtain ⟨w1,hw1⟩:=dB (w.alloc (.cells (ic x).toArray 44));have hB:=Blk.new w 44 (ic x).toArray;have hb:=dD w (.cells (ic x).toArray 44);have hc:=cell?_alloc_old hq (.cells (ic x).toArray 44);have hc1:=cell?_alloc_old hq1 (.cells (ic x).toArray 44);rw [<-hw1] at hB hb hc hc1;have e0:=hB.cell 1;have e1:=hB.cell 2;unfold ic at hw1 e0 e1;simp only [aP,aS,aW] at e0 e1;have he:=gU x.id s;have HW:=dH hw1;have HB:=dH hb;clear hw1 hb hB;unfold iv;go_enter func55,ntmps55;go_wp2_with fail;rw [<-HW.o];go_wp2_with fail;go_ret;exact ⟨rfl,HB.o⟩
theorem QM (q:Nat) (s:By) (x:It) (w:World) (hq:w.cell? ⟨q,0,none⟩=some (.string (bs s))):
  Calls prog 137 #[iv x,.pointer (some ⟨q,0,none⟩)] w (dJ w (.bool (oF s x))):=by
 have hl:=dn hq;obtain ⟨w1,hw1⟩:=dB (w.alloc (.cells (ic x).toArray 44));have hB:=Blk.new w 44 (ic x).toArray;have hb:=dD w (.cells (ic x).toArray 44);have hc:=cell?_alloc_old hq (.cells (ic x).toArray 44);rw [<-hw1] at hB hb hc;have e0:=hB.cell 0;unfold ic at hw1 e0;simp only [aP,aS] at e0;have he:dG ((x.path ==s)=oF s x):=by
  show _=_;unfold oF;rw [Bool.eq_iff_iff];simp
 have HW:=dH hw1;have HB:=dH hb;clear hw1 hb hB;unfold iv;go_enter func137,ntmps137;go_wp2_with fail;rw [<-HW.o];go_wp2_with fail;go_ret;exact ⟨by rw [<-he.o];rfl,HB.o⟩
theorem Ch {w:World} {B:Nat} {x:It} (h:Blk w B 44 (ic x).toArray):w.cell? ⟨B,0,none⟩=some (.string (bs x.path))/\w.cell? ⟨B,1,none⟩=some (.int .i64 x.id.1)/\w.cell? ⟨B,2,none⟩=some (.int .i64 x.id.2)/\w.cell? ⟨B,3,none⟩=some (.bool x.dir)/\w.cell? ⟨B,4,none⟩=some (.bool false)/\w.cell? ⟨B,5,none⟩=some (.string (bs x.mf)):=
 ⟨h.cell 0,h.cell 1,h.cell 2,h.cell 3,h.cell 4,h.cell 5⟩
def put6 (w:World) (B:Nat) (x:It):World:=(((((w.setCell ⟨B,0,none⟩ (.string (bs x.path))).setCell ⟨B,1,none⟩ (.int .i64 x.id.1)).setCell ⟨B,2,none⟩ (.int .i64 x.id.2)).setCell ⟨B,3,none⟩ (.bool x.dir)).setCell ⟨B,4,none⟩ (.bool false)).setCell ⟨B,5,none⟩ (.string (bs x.mf))
theorem qq {w:World} {B:Nat} {y:It} (x:It) (h:Blk w B 44 (ic y).toArray):Blk (put6 w B x) B 44 (ic x).toArray:=by
 have:=Blk.set_ (Blk.set_ (Blk.set_ (Blk.set_ (Blk.set_ (Blk.set_ h 0 (.string (bs x.path))) 1 (.int .i64 x.id.1)) 2 (.int .i64 x.id.2)) 3 (.bool x.dir)) 4 (.bool false)) 5 (.string (bs x.mf));unfold put6;simpa [ic] using this
theorem mu {B0:Nat} {w0 w:World} (h:Below B0 w0 w) {B:Nat} (hB:B0<=B) (x:It):Below B0 w0 (put6 w B x):=
 (((((h.setCell (p:=⟨B,0,none⟩) hB _).setCell (p:=⟨B,1,none⟩) hB _).setCell (p:=⟨B,2,none⟩) hB _).setCell (p:=⟨B,3,none⟩) hB _).setCell (p:=⟨B,4,none⟩) hB _).setCell (p:=⟨B,5,none⟩) hB _
theorem z7 (g:Nat) (cb:Value) (p:It->Bool) (eg:∀args w,(callFunc g args).run prog w=.ok (.enter g args) w) (A:Option Addr) (n c:Nat) (xs:List It) (w:World) (hx:AM w A n c xs)
  (hcl:∀(x:It) (wr:World),Below w.heap.size w wr->Calls prog g #[iv x,cb] wr (dJ wr (.bool (p x)))):
  Calls prog 54 #[.slice A n c,.func (.func g) #[] #[cb]] w (dJ w (.tuple #[iv (kg p xs),.bool (sB p xs)])):=by
 have hn:=hx.len;have qJ:=hx.max;have hle:=hx.le;have dR:=dD w (.cells (ic vk).toArray 44);have eY:=Blk.new w 44 (ic vk).toArray;have hx1:=hx.below dR;have hidx:=M9 g cb p eg A n c xs _ hx1 (fun x wr hb=>hcl x wr (dR.trans (hb.mono dR.size)));obtain ⟨w1,hw1⟩:=dB (w.alloc (.cells (ic vk).toArray 44));rw [<-hw1] at eY dR hx1 hidx;have HW:=dH (show w1=w.alloc (.cells #[.string ⟨#[]⟩,.int .i64 0,.int .i64 0,.bool false,.bool false,.string ⟨#[]⟩] 44) from hw1);have HX:=dH hx1;have HB:=dH dR;have eG:=dH eY;have HP:=dH hidx;clear hw1 hx1 dR hx eY hidx hcl;rcases AN p xs with ⟨k,hk,jQ,hpk,XU⟩| ⟨jQ,hpk,XU⟩
 ·rw [hpk,XU]
  rw [jQ] at HP;obtain ⟨x,WM⟩:=dB (xs[k]);rw [<-WM];have HXK:=dH WM;have hki:(k:Int) < (n:Int):=by omega
  have hkd:decide ((k:Int)≥0)=true:=decide_eq_true (by omega);clear hpk XU jQ WM;go_enter func54,ntmps54;go_wp2_with fail;rw [<-HW.o];refine HP.o.mono ?_;rintro e w2 ⟨rfl,dS⟩;have oO:=HB.o.trans (dS.mono HB.o.size);have eY:=Blk.below eG.o dS (Blk.lt eG.o);have hx2:=HX.o.below dS;have hf:=fun i=>Blk.frozen eY i
  have f0:=hf 0;have f1:=hf 1;have f2:=hf 2;have f3:=hf 3;have f4:=hf 4;have f5:=hf 5;obtain ⟨g0,g1,g2,g3,g4,g5⟩:=Ch eY;have eC:=mu oO (aB w.heap.size) x;have r:=Ch (qq x eY);obtain ⟨b,off,rfl,jY,c0,c1,c2,c3,c4,c5⟩:=AM.at_ hx2 hk;rw [<-HXK.o] at c0 c1 c2 c3 c5;unfold put6 at eC r;obtain ⟨r0,r1,r2,r3,r4,r5⟩:=r;have HF:=dH eC;clear eC hf eY dS oO hx2;go_wp2_with fail;exact bodyPost_ret (v:=.tuple #[iv x,.bool true]) (by simp [results,results54,go_sem,iv,r0,r1,r2,r3,r4,r5]) rfl ⟨rfl,HF.o⟩
 ·rw [hpk,XU]
  rw [jQ] at HP;clear hpk XU jQ;go_enter func54,ntmps54;go_wp2_with fail;rw [<-HW.o];refine HP.o.mono ?_;rintro e w2 ⟨rfl,dS⟩;have oO:=HB.o.trans (dS.mono HB.o.size);have eY:=Blk.below eG.o dS (Blk.lt eG.o);have hf:=fun i=>Blk.frozen eY i
  have f0:=hf 0;have f1:=hf 1;have f2:=hf 2;have f3:=hf 3;have f4:=hf 4;have f5:=hf 5;obtain ⟨g0,g1,g2,g3,g4,g5⟩:=Ch eY;have eC:=mu oO (aB w.heap.size) vk;have r:=Ch (qq vk eY);unfold put6 vk at eC r;obtain ⟨r0,r1,r2,r3,r4,r5⟩:=r;have he:(bs []:ByteArray)= ⟨#[]⟩:=rfl;simp only [he] at r0 r1 r2 r3 r4 r5 eC;have HF:=dH eC;clear eC hf eY dS oO;go_wp2_with fail;exact bodyPost_ret (v:=.tuple #[iv vk,.bool false]) (by simp [results,results54,go_sem,iv,vk,r0,r1,r2,r3,r4,r5];rfl) rfl ⟨rfl,HF.o⟩
theorem Tk (s:St) (A:Option Addr) (n c:Nat) (xs:List It) (w:World) (hx:AM w A n c xs):
  Calls prog 16 #[.slice A n c,.agg #[.int .i64 s.1,.int .i64 s.2]] w (dJ w (.tuple #[iv (kg (oE s) xs),.bool (sB (oE s) xs)])):=by
 have dR:=dD w (.cells #[.int .i64 s.1,.int .i64 s.2] 30);have dS:=dR.alloc dR.size (.cells (ic vk).toArray 44);have hq:=(Blk.new w 30 #[.int .i64 s.1,.int .i64 s.2]).alloc (.cells (ic vk).toArray 44);have eY:=Blk.new (w.alloc (.cells #[.int .i64 s.1,.int .i64 s.2] 30)) 44 (ic vk).toArray;have hsz:(w.alloc (.cells #[.int .i64 s.1,.int .i64 s.2] 30)).heap.size=w.heap.size+1:=aZ _;rw [hsz] at eY;have hx1:=hx.below dS;obtain ⟨w1,hw1⟩:=dB ((w.alloc (.cells #[.int .i64 s.1,.int .i64 s.2] 30)).alloc (.cells (ic vk).toArray 44));rw [<-hw1] at eY dS hx1 hq;have Hr:=z7 55 (.pointer (some ⟨w.heap.size,0,none⟩)) (oE s) MA A n c xs w1 hx1 (fun x wr hb=>by
  have hqr:=hq.below hb hq.lt;exact QL w.heap.size s x wr (hqr.cell 0) (hqr.cell 1))
 have HW:=dH (show w1=(w.alloc (.cells #[.int .i64 s.1,.int .i64 s.2] 30)).alloc (.cells #[.string ⟨#[]⟩,.int .i64 0,.int .i64 0,.bool false,.bool false,.string ⟨#[]⟩] 44) from hw1);have HB:=dH dS;have eG:=dH eY;have HP:=dH Hr;obtain ⟨x,hx⟩:=dB (kg (oE s) xs);rw [<-hx] at HP ⊢;obtain ⟨hs,S5⟩:=dB (sB (oE s) xs);rw [<-S5] at HP ⊢;clear hw1 hx1 dR dS eY Hr hq hsz hx S5;unfold iv at HP;go_enter func16,ntmps16;go_wp2_with fail;rw [<-HW.o];refine HP.o.mono ?_;rintro e w2 ⟨rfl,dS⟩;have oO:=HB.o.trans (dS.mono HB.o.size);have eY:=Blk.below eG.o dS (Blk.lt eG.o);have hf:=fun i=>Blk.frozen eY i
 have f0:=hf 0;have f1:=hf 1;have f2:=hf 2;have f3:=hf 3;have f4:=hf 4;have f5:=hf 5;obtain ⟨g0,g1,g2,g3,g4,g5⟩:=Ch eY;have eC:=mu oO (bC w.heap.size) x;have r:=Ch (qq x eY);unfold put6 at eC r;obtain ⟨r0,r1,r2,r3,r4,r5⟩:=r;have HF:=dH eC;clear eC hf eY dS oO;go_wp2_with fail;exact bodyPost_ret (v:=.tuple #[iv x,.bool hs]) (by simp [results,results16,go_sem,iv,r0,r1,r2,r3,r4,r5]) rfl ⟨rfl,HF.o⟩
theorem at_it (s:By) (A:Option Addr) (n c:Nat) (xs:List It) (w:World) (hx:AM w A n c xs):
  Calls prog 84 #[.slice A n c,.string (bs s)] w (dJ w (.tuple #[iv (kg (oF s) xs),.bool (sB (oF s) xs)])):=by
 have dR:=dD w (.cells #[.string (bs s)] 9);have dS:=dR.alloc dR.size (.cells (ic vk).toArray 44);have hq:=(Blk.new w 9 #[.string (bs s)]).alloc (.cells (ic vk).toArray 44);have eY:=Blk.new (w.alloc (.cells #[.string (bs s)] 9)) 44 (ic vk).toArray;have hsz:(w.alloc (.cells #[.string (bs s)] 9)).heap.size=w.heap.size+1:=aZ _;rw [hsz] at eY;have hx1:=hx.below dS;obtain ⟨w1,hw1⟩:=dB ((w.alloc (.cells #[.string (bs s)] 9)).alloc (.cells (ic vk).toArray 44));rw [<-hw1] at eY dS hx1 hq;have Hr:=z7 137 (.pointer (some ⟨w.heap.size,0,none⟩)) (oF s) JG A n c xs w1 hx1 (fun x wr hb=>by
  have hqr:=hq.below hb hq.lt;exact QM w.heap.size s x wr (hqr.cell 0))
 have HW:=dH (show w1=(w.alloc (.cells #[.string (bs s)] 9)).alloc (.cells #[.string ⟨#[]⟩,.int .i64 0,.int .i64 0,.bool false,.bool false,.string ⟨#[]⟩] 44) from hw1);have HB:=dH dS;have eG:=dH eY;have HP:=dH Hr;obtain ⟨x,hx⟩:=dB (kg (oF s) xs);rw [<-hx] at HP ⊢;obtain ⟨hs,S5⟩:=dB (sB (oF s) xs);rw [<-S5] at HP ⊢;clear hw1 hx1 dR dS eY Hr hq hsz hx S5;unfold iv at HP;go_enter func84,ntmps84;go_wp2_with fail;rw [<-HW.o];refine HP.o.mono ?_;rintro e w2 ⟨rfl,dS⟩;have oO:=HB.o.trans (dS.mono HB.o.size);have eY:=Blk.below eG.o dS (Blk.lt eG.o);have hf:=fun i=>Blk.frozen eY i
 have f0:=hf 0;have f1:=hf 1;have f2:=hf 2;have f3:=hf 3;have f4:=hf 4;have f5:=hf 5;obtain ⟨g0,g1,g2,g3,g4,g5⟩:=Ch eY;have eC:=mu oO (bC w.heap.size) x;have r:=Ch (qq x eY);unfold put6 at eC r;obtain ⟨r0,r1,r2,r3,r4,r5⟩:=r;have HF:=dH eC;clear eC hf eY dS oO;go_wp2_with fail;exact bodyPost_ret (v:=.tuple #[iv x,.bool hs]) (by simp [results,results84,go_sem,iv,r0,r1,r2,r3,r4,r5]) rfl ⟨rfl,HF.o⟩
end
end Go.Proofs.YtgdaahffmcfhpaaGreatDoor
