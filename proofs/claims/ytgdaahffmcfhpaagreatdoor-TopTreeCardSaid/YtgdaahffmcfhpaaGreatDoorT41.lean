/- Lemmas on the way: VShelf VSf. -/
import Derived.Shelf.SlSortCmp.QuietGrown
import Derived.Test.YtgdaahffmcfhpaaGreatDoorT40
import Derived.Test.YtgdaahffmcfhpaaGreatDoorT00
set_option maxRecDepth 100000
set_option maxHeartbeats 8000000
namespace Go.Proofs
open Tryz
open Go.Shelf
def Tryz.sortR_ren:Go.Shelf.Ren:=⟨fun|6=>93|15=>153|14=>152|28=>230|29=>231|20=>222|21=>223|22=>224|23=>225|24=>226|25=>227|26=>228|27=>229|46=>289|47=>290|48=>291|49=>292|50=>293|57=>345|n=>n,fun|22=>33|24=>38|25=>95|3=>3|39=>161|0=>0|53=>330|55=>332|4=>4|46=>324|45=>323|50=>81|5=>5|9=>9|66=>382|70=>385|76=>428|77=>429|n=>n,fun|n=>n⟩
theorem Tryz.sortR:Go.Proofs.SlLaysF0.n6 prog sortR_ren:={
 mixed:=by kernel_rfl
 f6:=⟨f93.name,by decide,func93.trans (congrArg some (by kernel_rfl))⟩
 f14:=⟨f152.name,by decide,func152.trans (congrArg some (by kernel_rfl))⟩
 f15:=func153.trans (congrArg some (by kernel_rfl))
 f20:=⟨f222.name,by decide,func222.trans (congrArg some (by kernel_rfl))⟩
 f21:=⟨f223.name,by decide,func223.trans (congrArg some (by kernel_rfl))⟩
 f22:=⟨f224.name,by decide,func224.trans (congrArg some (by kernel_rfl))⟩
 f23:=⟨f225.name,by decide,func225.trans (congrArg some (by kernel_rfl))⟩
 f24:=⟨f226.name,by decide,func226.trans (congrArg some (by kernel_rfl))⟩
 f25:=⟨f227.name,by decide,func227.trans (congrArg some (by kernel_rfl))⟩
 f26:=⟨f228.name,by decide,func228.trans (congrArg some (by kernel_rfl))⟩
 f27:=⟨f229.name,by decide,func229.trans (congrArg some (by kernel_rfl))⟩
 f28:=func230.trans (congrArg some (by kernel_rfl))
 f29:=func231.trans (congrArg some (by kernel_rfl))
 f46:=⟨f289.name,by decide,func289.trans (congrArg some (by kernel_rfl))⟩
 f47:=func290.trans (congrArg some (by kernel_rfl))
 f48:=func291.trans (congrArg some (by kernel_rfl))
 f49:=⟨f292.name,by decide,func292.trans (congrArg some (by kernel_rfl))⟩
 f50:=⟨f293.name,by decide,func293.trans (congrArg some (by kernel_rfl))⟩
 f57:=⟨f345.name,by decide,func345.trans (congrArg some (by kernel_rfl))⟩
 t0:=underlying0
 a0:=isAgg0
 z0:=sizeOf0
 v0:=zeroValue0
 t3:=underlying3
 a3:=isAgg3
 z3:=sizeOf3
 v3:=zeroValue3
 t4:=underlying4
 a4:=isAgg4
 z4:=sizeOf4
 v4:=zeroValue4
 t5:=underlying5
 a5:=isAgg5
 z5:=sizeOf5
 v5:=zeroValue5
 t9:=underlying9
 a9:=isAgg9
 z9:=sizeOf9
 v9:=zeroValue9
 t22:=underlying33
 a22:=isAgg33
 z22:=sizeOf33
 v22:=zeroValue33
 t25:=underlying95
 a25:=isAgg95
 z25:=sizeOf95
 v25:=zeroValue95
 t39:=underlying161
 a39:=isAgg161
 z39:=sizeOf161
 v39:=zeroValue161
 t45:=underlying323
 a45:=isAgg323
 z45:=sizeOf323
 v45:=zeroValue323
 t46:=underlying324
 a46:=isAgg324
 z46:=sizeOf324
 v46:=zeroValue324
 t50:=underlying81
 a50:=isAgg81
 z50:=sizeOf81
 v50:=zeroValue81
 t53:=underlying330
 a53:=isAgg330
 z53:=sizeOf330
 v53:=zeroValue330
 t55:=underlying332
 a55:=isAgg332
 z55:=sizeOf332
 v55:=zeroValue332
 t66:=underlying382
 a66:=isAgg382
 z66:=sizeOf382
 v66:=zeroValue382
 t70:=underlying385
 a70:=isAgg385
 z70:=sizeOf385
 v70:=zeroValue385
 t76:=underlying428
 a76:=isAgg428
 z76:=sizeOf428
 v76:=zeroValue428
 t77:=underlying429
 a77:=isAgg429
 z77:=sizeOf429
 v77:=zeroValue429 }
end Go.Proofs
namespace Go.Proofs.YtgdaahffmcfhpaaGreatDoor
open Tryz
section
open Go.RowKit Go.Shelf Go.Sort Go.Lib
attribute [local go_sem] dO dL dQ dM
theorem Gz (x y:Nd):DI x y < 0↔dX x.id y.id=true:=by
 unfold DI;cases dX x.id y.id <;> simp
theorem om (x y:Nd):ltOf DI x y=dX x.id y.id:=by
 unfold ltOf;cases h:dX x.id y.id with
 |true=>exact decide_eq_true ((Gz x y).2 h)
 |false=>exact decide_eq_false (fun hc=>by rw [(Gz x y).1 hc] at h;cases h)
theorem DJ {a b c:St} (h:dX a b=false) (k:dX b c=false):dX a c=false:=by
 cases hc:dX a c with
 |false=>rfl
 |true=>
  rw [mJ] at hc;have h1:¬ (dX a b=true):=by rw [h];simp
  have h2:¬ (dX b c=true):=by rw [k];simp
  rw [mJ] at h1 h2;omega
theorem aaR:SWO (ltOf DI) where
 irrefl x:=by rw [om];exact oJ _
 trans x y z h1 h2:=by
  rw [om] at*;exact kz h1 h2
 ntrans x y z h1 h2:=by
  rw [om] at*;exact DJ h1 h2
theorem R7 (g size:Nat) (w:World):CmpLays prog 43 #[] nc 7 DI g 0 size w:=fun _ _ _ _ x y=>N9 x y _
theorem H7 (d:Array Nd) (t:Nat) (h:t < d.size*7):(flatK nc 7 d)[t]! =(jB d.toList)[t]!:=by
 rw [get_flatK _ _ _ _ h];have hd:t / 7 < d.toList.length:=by simp;omega
 have e:=pX d.toList (t / 7) (t % 7) hd (by omega);rw [show t / 7*7+t % 7=t by omega] at e;rw [List.getElem!_eq_getElem?_getD (l:=jB d.toList),e,List.getElem!_eq_getElem?_getD,getElem!_pos d (t / 7) (by omega)];simp
theorem Jk {w:World} {B g cap:Nat} {e:TypeId} {xs:List Nd} (h:w.ownsRow B e 7 (.slice (some ⟨g,0,none⟩) xs.length cap) xs.length (jB xs)):HoldsK nc 7 w g 0 xs.toArray:=by
 intro j hj;rw [size_flatK] at hj;rw [H7 _ _ hj];have hl:j < (jB xs).length:=by rw [iJ];simpa using hj
 rcases (dN.of_row h).2 with ⟨e,_⟩| ⟨g',cap',e,_,_,hnc,_,_,hf,hx⟩
 ·cases e
 ·cases e
  rw [aY];refine ⟨?_,hf j (by simp at hj;omega)⟩;rw [hx j _ (bf hl)];simp [hl]
theorem FY {w:World} {g n:Nat} {os:Array Obj} (d:Array Nd):w.grownBy (sortWorldK nc 7 w g 0 n d os) (some g):=by
 unfold sortWorldK putRowK;refine ⟨rfl,rfl,rfl,by simp [size_grow,putRow,mapBlock],fun k hk hne=>?_⟩;unfold grow putRow mapBlock Go.Sort.ahead;rw [Array.getElem?_append_left (by simpa using hk)];simp only [Array.getElem?_modify];rw [if_neg (fun e=>hne (by rw [e]))]
theorem NA {w:World} {B g cap n:Nat} {os:Array Obj} {xs:List Nd} {d:Array Nd} (h:w.ownsRow B 38 7 (.slice (some ⟨g,0,none⟩) xs.length cap) xs.length (jB xs)) (hg:g < w.heap.size) (hd:d.size=xs.length):
  (sortWorldK nc 7 w g 0 n d os).ownsRow B 38 7 (.slice (some ⟨g,0,none⟩) xs.length cap) xs.length (jB d.toList):=by
 refine ⟨by rw [iJ,<-hd];simp,?_⟩;rcases h.2 with ⟨e,_⟩| ⟨g',cap',cur,e,hb,hh,hle,qJ,hsz,htk⟩
 ·cases e
 ·cases e
  refine .inr ⟨g,cap,putCells id 0 (flatK nc 7 d) cur,rfl,hb,?_,hle,qJ,?_,?_⟩
  ·unfold sortWorldK putRowK grow putRow mapBlock Go.Sort.ahead
   rw [Array.getElem?_append_left (by simpa using hg)];simp only [Array.getElem?_modify,hh];rfl
  ·simp [putCells,hsz]
  ·apply List.ext_getElem?
   intro j;rw [List.getElem?_take];have KG:d.size*7<=cap*7:=by rw [hd];exact bA _ hle
   by_cases hj:j < xs.length*7
   ·rw [if_pos hj]
    have hj2:j < d.size*7:=by rw [hd];exact hj
    have hjc:j < cur.size:=by rw [hsz];omega
    have hl:j < (jB d.toList).length:=by rw [iJ];simpa using hj2
    have e:=H7 d j hj2;simp only [putCells,Array.toList_mapIdx,List.getElem?_mapIdx,cC,cK hjc,bU];rw [if_pos (by rw [size_flatK];omega),Nat.sub_zero,e];simp [hl]
   ·rw [if_neg hj,bI (by rw [iJ];simp only [bp];omega)]
theorem aaS:∀w,(isAgg (sortR_ren.t 24)).run prog w=.ok true w:=isAgg38
theorem UA:∀w,(Go.sizeOf (sortR_ren.t 24)).run prog w=.ok 7 w:=sizeOf38
def FZ (a b:Nd):Prop:=dX b.id a.id=false
theorem NB (B:Nat) (v:Value) (xs:List Nd) (w:World) (h:w.ownsRow B 38 7 v xs.length (jB xs)) (hm:xs.length<=1000000):
  Calls prog 93 #[v,.func (.func 43) #[] #[]] w fun e w'=>e=.returned (.tuple #[])/\∃s,List.Perm s xs/\s.Pairwise FZ/\w'.ownsRow B 38 7 v s.length (jB s)/\w.grownBy w' v.ownBlock:=by
 rcases h.2 with ⟨rfl,e2⟩| ⟨g,cap,cur,rfl,hb,hh,_⟩
 ·have hx:xs=[]:=bH e2
  subst hx;refine (AnyF.slices_SortFunc_none (P:=prog) (ρ:=sortR_ren) { sortR with } none 0 _ w).mono ?_;rintro e w' ⟨rfl,rfl⟩;exact ⟨rfl,[],List.Perm.refl _,List.Pairwise.nil,h,dx _ _⟩
 ·have hlt:g < w.heap.size:=Blk.lt (t:=38) (cs:=cur) hh
  have eg:∀args w,(callFunc 43 args).run prog w=.ok (.enter 43 args) w:=enters_of func43 (by kernel_rfl) rfl;have Zw:=AnyQ.slices_SortFunc (P:=prog) (ρ:=sortR_ren) sortR 7 aaS UA nc (fun _=>rfl) (fun x v hv=>ng x v (by simpa using hv)) DI aaR 43 #[] g 0 cap xs.toArray w eg (R7 g _ w) (Jk h) hlt (by simp;omega);simp only [bG] at Zw;refine Zw.mono ?_;rintro e w' ⟨rfl,d',n,os,hp,hs,rfl⟩;have hsz:d'.size=xs.length:=by simpa using hp.1
  refine ⟨rfl,d'.toList,?_,?_,?_,FY d'⟩
  ·have h2:=hp.2.2
   rw [show d'.extract 0 xs.length=d' by rw [<-hsz];simp,show xs.toArray.extract 0 xs.length=xs.toArray by simp] at h2;simpa using h2
  ·rw [dA]
   intro i j hi hj hij;simp only [bp] at hi hj;have:=hs i j (aT _) hij (by rw [<-hsz];exact hj);rw [om,getElem!_pos d' j hj,getElem!_pos d' i hi] at this;simp only [Array.getElem_toList];exact this
  ·have:=NA (n:=n) (os:=os) h hlt hsz
   rw [show d'.toList.length=xs.length by rw [bp];exact hsz];exact this
theorem DK (Bs b:Nat) (es:List Nd) (w:World) (Bk:es.length<=1000000) (h1:Bs < w.heap.size) (th:Boxed w Bs 63 (.map (some b))) (hmap:gP w b es):
  Calls prog 92 #[.func (.func 94) #[] #[.pointer (some ⟨Bs,0,none⟩)]] w fun e w'=>∃v ys,e=.returned v/\ys.Perm es/\w'.ownsRow w.heap.size 38 7 v ys.length (jB ys)/\Below w.heap.size w w':=by
 have H:=dH ((callsIn_wide (n:=5)).1 (Ak Fence.wide 5 trivial trivial rfl (by omega) Bs b es w Bk h1 th hmap));clear th hmap;go_enter func92,ntmps92;go_wp2_with fail;refine H.o.mono ?_;rintro e w' ⟨v,ys,rfl,hp,ho,hb⟩;have HP:=dH hp;have HO:=dH ho;have HB:=dH hb;clear hp ho hb;go_wp2_with fail;go_ret;exact ⟨_,ys,rfl,HP.o,HO.o,HB.o⟩
theorem Fa (Bs b:Nat) (es:List Nd) (w:World) (Bk:es.length<=1000000) (h1:Bs < w.heap.size) (th:Boxed w Bs 63 (.map (some b))) (hmap:gP w b es):
  Calls prog 41 #[.func (.func 94) #[] #[.pointer (some ⟨Bs,0,none⟩)],.func (.func 43) #[] #[]] w fun e w'=>∃v s,e=.returned v/\List.Perm s es/\s.Pairwise FZ/\w'.ownsRow w.heap.size 38 7 v s.length (jB s)/\Below w.heap.size w w':=by
 have H:=dH (DK Bs b es w Bk h1 th hmap);clear th hmap;go_enter func41,ntmps41;go_wp2_with fail;refine H.o.mono ?_;rintro e w1 ⟨v,ys,rfl,hp,ho,hb⟩;have HS:=dH (NB _ v ys w1 ho (by rw [hp.length_eq];exact Bk));have Zx:∀k,v.ownBlock=some k->w.heap.size<=k:=fun k hk=>((dN.of_row ho).ge k hk).1
 have HG:=dH Zx;have HB:=dH hb;have HP:=dH hp;clear ho hb Zx hp;go_wp2_with fail;refine HS.o.mono ?_;rintro e w2 ⟨rfl,s,hp,hs,ho,hg⟩;have HO:=dH ho;have IA:=dH (hp.trans HP.o);have Kg:=dH hs;have dS:=HB.o.grown hg HB.o.size (fun k hk=>HG.o k hk);have eG:=dH dS;clear ho hg dS hp hs;go_wp2_with fail;go_ret;exact ⟨_,s,rfl,IA.o,Kg.o,HO.o,eG.o⟩
theorem DL (p m:Nat) (v:Value) (r:Int) (es:List Nd) (w:World) (h:kH w p m v r es) (Bk:es.length<=1000000):
  Calls prog 10 #[.pointer (some ⟨p,0,none⟩)] w fun e w'=>∃v s,e=.returned v/\List.Perm s es/\s.Pairwise FZ/\Own w' w.heap.size v s/\Below w.heap.size w w':=by
 have c1:=h.c1;have dR:Below w.heap.size w (w.alloc (.cells #[.map (some m)] 63)):=(aC _ _).alloc (aB _) _;have HS:=dH (Fa w.heap.size m es (w.alloc (.cells #[.map (some m)] 63)) Bk (by simp) (Blk.new w 63 #[.map (some m)]).toBox (h.map.below dR));have eH:=dH dR;clear h dR;go_enter func10,ntmps10;go_wp2_with (first|(go_at_call 42;refine (Jd m w).mono ?_;rintro e w1 ⟨rfl,rfl⟩)|(go_at_call 41;refine HS.o.mono ?_;rintro e w2 ⟨v2,s,rfl,hp,hs,ho,hb⟩;have HP:=dH hp;have HSo:=dH hs;have HO:=dH ho;have HB:=dH hb;clear hp hs ho hb))
 go_ret;have eY:=eH.o.trans (HB.o.mono (by simp));refine ⟨v2,s,rfl,HP.o,HSo.o,?_,eY⟩;have:=dN.of_row HO.o;refine ⟨this.1,?_⟩;rcases this.2 with h2| ⟨g,cap,e,hb,rr⟩
 ·exact .inl h2
 ·exact .inr ⟨g,cap,e,by have h3:(w.alloc (.cells #[.map (some m)] 63)).heap.size=w.heap.size+1:=(by simp);omega,rr⟩
end
end Go.Proofs.YtgdaahffmcfhpaaGreatDoor
