/- Lemmas on the way: VShelf VSf VPn. -/
import Derived.Shelf.SlSortCmp.NoneTotal
import Derived.Shelf.SlSortCmp.QuietGrown
import Derived.Test.YtgdaahffmcfhpaaGreatDoorO39
set_option maxRecDepth 100000
set_option maxHeartbeats 8000000
namespace Go.Proofs
open YtgdaahffmcfhpaaGreatDoor.aA
open Tryz
open Go.Shelf
def Tryz.sortR_ren:Go.Shelf.Ren:=⟨fun|6=>93|15=>153|14=>152|28=>230|29=>231|20=>222|21=>223|22=>224|23=>225|24=>226|25=>227|26=>228|27=>229|46=>289|47=>290|48=>291|49=>292|50=>293|57=>345|n=>n,fun|22=>33|24=>38|25=>95|3=>3|39=>161|0=>0|53=>330|55=>332|4=>4|46=>324|45=>323|50=>81|5=>5|9=>9|66=>382|70=>385|76=>428|77=>429|n=>n,fun|n=>n⟩
theorem Tryz.sortR:Go.Proofs.SlLaysF0.n6 prog sortR_ren:={
 mixed:=by kernel_rfl
 f6:=⟨f93.name,by decide,func93.trans (congrArg some (by kernel_rfl))⟩
 f14:=⟨f152.name,by decide,func152.trans (congrArg some (by kernel_rfl))⟩
 f15:=func153.trans (congrArg some (by kernel_rfl))
 f20:=⟨f222.name,by decide,func222.trans (congrArg some (by kernel_rfl))⟩
 f21:=⟨f223.name,by decide,func223.trans (congrArg some (by kernel_rfl))⟩
 f22:=⟨f224.name,by decide,func224.trans (congrArg some (by kernel_rfl))⟩
 f23:=⟨f225.name,by decide,func225.trans (congrArg some (by kernel_rfl))⟩
 f24:=⟨f226.name,by decide,func226.trans (congrArg some (by kernel_rfl))⟩
 f25:=⟨f227.name,by decide,func227.trans (congrArg some (by kernel_rfl))⟩
 f26:=⟨f228.name,by decide,func228.trans (congrArg some (by kernel_rfl))⟩
 f27:=⟨f229.name,by decide,func229.trans (congrArg some (by kernel_rfl))⟩
 f28:=func230.trans (congrArg some (by kernel_rfl))
 f29:=func231.trans (congrArg some (by kernel_rfl))
 f46:=⟨f289.name,by decide,func289.trans (congrArg some (by kernel_rfl))⟩
 f47:=func290.trans (congrArg some (by kernel_rfl))
 f48:=func291.trans (congrArg some (by kernel_rfl))
 f49:=⟨f292.name,by decide,func292.trans (congrArg some (by kernel_rfl))⟩
 f50:=⟨f293.name,by decide,func293.trans (congrArg some (by kernel_rfl))⟩
 f57:=⟨f345.name,by decide,func345.trans (congrArg some (by kernel_rfl))⟩
 t0:=underlying0
 a0:=isAgg0
 z0:=sizeOf0
 v0:=zeroValue0
 t3:=underlying3
 a3:=isAgg3
 z3:=sizeOf3
 v3:=zeroValue3
 t4:=underlying4
 a4:=isAgg4
 z4:=sizeOf4
 v4:=zeroValue4
 t5:=underlying5
 a5:=isAgg5
 z5:=sizeOf5
 v5:=zeroValue5
 t9:=underlying9
 a9:=isAgg9
 z9:=sizeOf9
 v9:=zeroValue9
 t22:=underlying33
 a22:=isAgg33
 z22:=sizeOf33
 v22:=zeroValue33
 t25:=underlying95
 a25:=isAgg95
 z25:=sizeOf95
 v25:=zeroValue95
 t39:=underlying161
 a39:=isAgg161
 z39:=sizeOf161
 v39:=zeroValue161
 t45:=underlying323
 a45:=isAgg323
 z45:=sizeOf323
 v45:=zeroValue323
 t46:=underlying324
 a46:=isAgg324
 z46:=sizeOf324
 v46:=zeroValue324
 t50:=underlying81
 a50:=isAgg81
 z50:=sizeOf81
 v50:=zeroValue81
 t53:=underlying330
 a53:=isAgg330
 z53:=sizeOf330
 v53:=zeroValue330
 t55:=underlying332
 a55:=isAgg332
 z55:=sizeOf332
 v55:=zeroValue332
 t66:=underlying382
 a66:=isAgg382
 z66:=sizeOf382
 v66:=zeroValue382
 t70:=underlying385
 a70:=isAgg385
 z70:=sizeOf385
 v70:=zeroValue385
 t76:=underlying428
 a76:=isAgg428
 z76:=sizeOf428
 v76:=zeroValue428
 t77:=underlying429
 a77:=isAgg429
 z77:=sizeOf429
 v77:=zeroValue429 }
end Go.Proofs
namespace Go.Proofs.YtgdaahffmcfhpaaGreatDoor
open aA
open Tryz
section
open Go.RowKit Go.Shelf Go.Sort Go.Lib
attribute [local go_sem] dR dO dS dP
theorem JC (x y:Nd):EO x y < 0↔di x.id y.id=true:=by
 unfold EO;cases di x.id y.id <;> simp
theorem pq (x y:Nd):ltOf EO x y=di x.id y.id:=by
 unfold ltOf;cases h:di x.id y.id with
 |true=>exact decide_eq_true ((JC x y).2 h)
 |false=>exact decide_eq_false (λhc=>by rw [(JC x y).1 hc] at h;cases h)
theorem EP {a b c:St} (h:di a b=false) (k:di b c=false):di a c=false:=by
 cases hc:di a c with
 |false=>rfl
 |true=>
  rw [mu] at hc;have h1:¬ (di a b=true):=by rw [h];simp
  have h2:¬ (di b c=true):=by rw [k];simp
  rw [mu] at h1 h2;omega
theorem adZ:SWO (ltOf EO) where
 irrefl x:=by rw [pq];exact mH _
 trans x y z h1 h2:=by
  rw [pq] at*;exact jk h1 h2
 ntrans x y z h1 h2:=by
  rw [pq] at*;exact EP h1 h2
theorem TG (g size:Nat) (w:World):CmpLays prog 43 #[] nc 7 EO g 0 size w:=λ_ _ _ _ x y=>P4 x y _
theorem JD (d:Array Nd) (t:Nat) (h:t < d.size*7):(flatK nc 7 d)[t]! =(jU d.toList)[t]!:=by
 rw [get_flatK _ _ _ _ h];have hd:t / 7 < d.toList.length:=by simp;omega
 have e:=qd d.toList (t / 7) (t % 7) hd (by omega);rw [show t / 7*7+t % 7=t by omega] at e;rw [List.getElem!_eq_getElem?_getD (l:=jU d.toList),e,List.getElem!_eq_getElem?_getD,getElem!_pos d (t / 7) (by omega)];simp
variable {w:World} {xs:List Nd}
theorem LM {B g cap:Nat} {e:TypeId} (h:w.ownsRow B e 7 (.slice (some g) xs.length cap) xs.length (jU xs)):HoldsK nc 7 w g 0 xs.toArray:=by
 intro j hj;rw [size_flatK] at hj;rw [JD _ _ hj];have hl:j < (jU xs).length:=by rw [ia];simpa using hj
 rcases (dQ.of_row h).2 with ⟨e,_⟩| ⟨g',cap',e,_,_,hnc,_,_,hf,hx⟩
 ·cases e
 ·cases e
  rw [aV];refine ⟨?_,hf j (by simp at hj;omega)⟩;rw [hx j _ (bh hl)];simp [hl]
variable {os:Array Obj}
theorem Gg {g n:Nat} (d:Array Nd):w.grownBy (sortWorldK nc 7 w g 0 n d os) (some g):=by
 unfold sortWorldK putRowK;refine ⟨rfl,rfl,rfl,by simp [size_grow,putRow,mapBlock],λk hk hne=>?_⟩;unfold grow putRow mapBlock Go.Sort.ahead;rw [Array.getElem?_append_left (by simpa using hk)];simp only [cK];rw [if_neg (λe=>hne (by rw [e]))]
theorem P5 {B g cap n:Nat} {d:Array Nd} (h:w.ownsRow B 38 7 (.slice (some g) xs.length cap) xs.length (jU xs)) (hg:g < w.heap.size) (hd:d.size=xs.length):
  (sortWorldK nc 7 w g 0 n d os).ownsRow B 38 7 (.slice (some g) xs.length cap) xs.length (jU d.toList):=by
 refine ⟨by rw [ia,<-hd];simp,?_⟩;rcases h.2 with ⟨e,_⟩| ⟨g',cap',cur,e,hb,hh,hle,lg,hsz,htk⟩
 ·cases e
 ·cases e
  refine .inr ⟨g,cap,putCells id 0 (flatK nc 7 d) cur,rfl,hb,?_,hle,lg,?_,?_⟩
  ·unfold sortWorldK putRowK grow putRow mapBlock Go.Sort.ahead
   rw [Array.getElem?_append_left (by simpa using hg)];simp only [cK,hh];rfl
  ·simp [putCells,hsz]
  ·apply List.ext_getElem?
   intro j;rw [List.getElem?_take];have M0:d.size*7<=cap*7:=by rw [hd];exact bA _ hle
   by_cases hj:j < xs.length*7
   ·rw [if_pos hj]
    have hj2:j < d.size*7:=by rw [hd];exact hj
    have hjc:j < cur.size:=by rw [hsz];omega
    have hl:j < (jU d.toList).length:=by rw [ia];simpa using hj2
    have e:=JD d j hj2;simp only [putCells,Array.toList_mapIdx,List.getElem?_mapIdx,cN,cG hjc,bI];rw [if_pos (by rw [size_flatK];omega),Nat.sub_zero,e];simp [hl]
   ·rw [if_neg hj,bD (by rw [ia];simp only [cC];omega)]
theorem aea:∀w,(isAgg (sortR_ren.t 24)).run prog w=.ok true w:=isAgg38
theorem Wj:∀w,(Go.sizeOf (sortR_ren.t 24)).run prog w=.ok 7 w:=sizeOf38
def Gh (a b:Nd):Prop:=di b.id a.id=false
theorem P6 (B:Nat) (v:Value) (xs:List Nd) (w:World) (h:w.ownsRow B 38 7 v xs.length (jU xs)) (hm:xs.length<=1000000):
  Calls prog 93 #[v,.func (.func 43) #[] #[]] w λe w'=>e=.returned (.tuple #[])/\∃s,List.Perm s xs/\s.Pairwise Gh/\w'.ownsRow B 38 7 v s.length (jU s)/\w.grownBy w' v.ownBlock:=by
 rcases h.2 with ⟨rfl,e2⟩| ⟨g,cap,cur,rfl,hb,hh,_⟩
 ·have hx:xs=[]:=az e2
  subst hx;refine (AnyF.slices_SortFunc_none (P:=prog) (ρ:=sortR_ren) { sortR with } none 0 _ w).mono ?_;rintro e w' ⟨rfl,rfl⟩;exact ⟨rfl,[],List.Perm.refl _,List.Pairwise.nil,h,dz _ _⟩
 ·have hlt:g < w.heap.size:=Blk.lt (t:=38) (cs:=cur) hh
  have eg:∀args w,(callFunc 43 args).run prog w=.ok (.enter 43 args) w:=enters_of func43 (by kernel_rfl) rfl;have acr:=AnyQ.slices_SortFunc (P:=prog) (ρ:=sortR_ren) sortR 7 aea Wj nc (λ_=>rfl) (λx v hv=>oU x v (by simpa using hv)) EO adZ 43 #[] g 0 cap xs.toArray w eg (TG g _ w) (LM h) hlt (by simp;omega);simp only [bW] at acr;refine acr.mono ?_;rintro e w' ⟨rfl,d',n,os,hp,hs,rfl⟩;have hsz:d'.size=xs.length:=by simpa using hp.1
  refine ⟨rfl,d'.toList,?_,?_,?_,Gg d'⟩
  ·have h2:=hp.2.2
   rw [show d'.extract 0 xs.length=d' by rw [<-hsz];simp,show xs.toArray.extract 0 xs.length=xs.toArray by simp] at h2;simpa using h2
  ·rw [dF]
   intro i j hi hj hij;simp only [cC] at hi hj;have:=hs i j (aS _) hij (by rw [<-hsz];exact hj);rw [pq,getElem!_pos d' j hj,getElem!_pos d' i hi] at this;simp only [Array.getElem_toList];exact this
  ·have:=P5 (n:=n) (os:=os) h hlt hsz
   rw [show d'.toList.length=xs.length by rw [cC];exact hsz];exact this
theorem ER (Bs b:Nat) (es:List Nd) (w:World) (Ml:es.length<=1000000) (h1:Bs < w.heap.size) (FY:Boxed w Bs 63 (.map (some b))) (hmap:gd w b es):
  Calls prog 92 #[.func (.func 94) #[] #[.pointer (some ⟨Bs,0,none⟩)]] w λe w'=>∃v ys,e=.returned v/\ys.Perm es/\w'.ownsRow w 38 7 v ys.length (jU ys)/\Below w w w':=by
 have H:=dL ((callsIn_wide (n:=5)).1 (C5 Fence.wide 5 trivial trivial rfl (by omega) Bs b es w Ml h1 FY hmap));clear FY hmap;go_enter func92,ntmps92;go_wp2_with fail;refine H.o.mono ?_;rintro e w' ⟨v,ys,rfl,hp,ho,hb⟩;have HP:=dL hp;have HO:=dL ho;have HB:=dL hb;clear hp ho hb;go_wp2_with fail;go_ret;exact ⟨_,ys,rfl,HP.o,HO.o,HB.o⟩
theorem Gj (Bs b:Nat) (es:List Nd) (w:World) (Ml:es.length<=1000000) (h1:Bs < w.heap.size) (FY:Boxed w Bs 63 (.map (some b))) (hmap:gd w b es):
  Calls prog 41 #[.func (.func 94) #[] #[.pointer (some ⟨Bs,0,none⟩)],.func (.func 43) #[] #[]] w λe w'=>∃v s,e=.returned v/\List.Perm s es/\s.Pairwise Gh/\w'.ownsRow w 38 7 v s.length (jU s)/\Below w w w':=by
 have H:=dL (ER Bs b es w Ml h1 FY hmap);clear FY hmap;go_enter func41,ntmps41;go_wp2_with fail;refine H.o.mono ?_;rintro e w1 ⟨v,ys,rfl,hp,ho,hb⟩;have HS:=dL (P6 _ v ys w1 ho (by rw [hp.length_eq];exact Ml));have acs:∀k,v.ownBlock=some k->w.heap.size<=k:=λk hk=>((dQ.of_row ho).ge k hk).1
 have HG:=dL acs;have HB:=dL hb;have HP:=dL hp;clear ho hb acs hp;go_wp2_with fail;refine HS.o.mono ?_;rintro e w2 ⟨rfl,s,hp,hs,ho,hg⟩;have HO:=dL ho;have M7:=dL (hp.trans HP.o);have CQ:=dL hs;have dY:=HB.o.grown hg HB.o.size (λk hk=>HG.o k hk);have eA:=dL dY;clear ho hg dY hp hs;go_wp2_with fail;go_ret;exact ⟨_,s,rfl,M7.o,CQ.o,HO.o,eA.o⟩
theorem ES (p m:Nat) (v:Value) (r:Int) (es:List Nd) (w:World) (h:kY w p m v r es) (Ml:es.length<=1000000):
  Calls prog 10 #[Qp p] w λe w'=>∃v s,e=.returned v/\List.Perm s es/\s.Pairwise Gh/\Own w' w v s/\Below w w w':=by
 have c1:=h.c1;have dV:Below w w (w.alloc (.cells #[.map (some m)] 63)):=(aC _ _).alloc (aB _) _;have HS:=dL (Gj w m es (w.alloc (.cells #[.map (some m)] 63)) Ml (by simp) (Blk.new w 63 #[.map (some m)]).toBox (h.map.below dV));have eR:=dL dV;clear h dV;go_enter func10,ntmps10;go_wp2_with (first|(go_at_call 42;refine (LB m w).mono ?_;rintro e w1 ⟨rfl,rfl⟩)|(go_at_call 41;refine HS.o.mono ?_;rintro e w2 ⟨v2,s,rfl,hp,hs,ho,hb⟩;have HP:=dL hp;have HSo:=dL hs;have HO:=dL ho;have HB:=dL hb;clear hp hs ho hb))
 go_ret;have fD:=eR.o.trans (HB.o.mono (by simp));refine ⟨v2,s,rfl,HP.o,HSo.o,?_,fD⟩;have:=dQ.of_row HO.o;refine ⟨this.1,?_⟩;rcases this.2 with h2| ⟨g,cap,e,hb,rr⟩
 ·exact .inl h2
 ·exact .inr ⟨g,cap,e,by have h3:(w.alloc (.cells #[.map (some m)] 63)).heap.size=w.heap.size+1:=(by simp);omega,rr⟩
end
section
theorem xh (xs:List Nd):∀(f:Nat) (out:List St) (id o:St),o∈out->o∈oV xs f out id
 |0,out,id,o,h=>h
 |f+1,out,id,o,h=>by
  unfold oV;by_cases h1:id∈out
  ·rw [if_pos h1];exact h
  ·rw [if_neg h1]
   cases er id xs with
   |true=>exact xh xs f _ _ o (cW _ h)
   |false=>
    have:out≠[]:=λe=>by rw [e] at h;cases h
    rw [if_neg (by simp),if_neg this];exact cW _ h
theorem uU (xs:List Nd) (out:List St) (nd:St) (hn:nd∉out) (hc:∀o∈out,(eX o xs).par∈out):∀(f:Nat) (id:St),id∈out->belowP xs f id nd=false
 |0,_,_=>rfl
 |f+1,id,h=>by
  unfold belowP;have hne:¬ id=nd:=λe=>by rw [e] at h;exact hn h
  rw [if_neg hne];cases er id xs with
  |true=>exact uU xs out nd hn hc f _ (hc id h)
  |false=>rfl
theorem uV {xs:List Nd} {nd:St} (hnd:er nd xs=true):∀(f f':Nat) (out:List St) (id:St),left xs out < f->left xs out < f'->nd∉out->(∀o∈out,(eX o xs).par∈out\/(eX o xs).par=id)->
  belowP xs f' id nd=decide (nd∈oV xs f out id)
 |0,f',out,id,h,_,_,_=>by omega
 |f+1,0,out,id,_,h,_,_=>by omega
 |f+1,f'+1,out,id,h1,h2,hn,hc=>by
  unfold oV;by_cases h:id∈out
  ·rw [if_pos h,decide_eq_false hn]
   exact uU xs out nd hn (λo ho=>by rcases hc o ho with h3|h3;exact h3;rw [h3];exact h) _ _ h
  ·rw [if_neg h]
   unfold belowP;cases hh:er id xs with
   |false=>
    have hne:¬ id=nd:=λe=>by rw [e,hnd] at hh;cases hh
    rw [if_neg hne,if_neg (by simp),if_neg (by simp)];by_cases ho:out=[]
    ·rw [if_pos ho];rfl
    ·rw [if_neg ho]
     symm;rw [decide_eq_false_iff_not,aq,aW,not_or];exact ⟨hn,λe=>hne e.symm⟩
   |true=>
    simp only [if_true];have hl:=Ie hh h;by_cases e:id=nd
    ·subst e
     rw [if_pos rfl];symm;rw [decide_eq_true_iff];exact xh _ _ _ _ _ (by simp)
    ·rw [if_neg e]
     exact uV hnd f f' (out++[id]) _ (by omega) (by omega) (by rw [aq,aW,not_or];exact ⟨hn,λe2=>e e2.symm⟩) (λo ho=>by
      rcases aq.1 ho with ho|ho
      ·rcases hc o ho with h3|h3
       ·exact .inl (cW _ h3)
       ·exact .inl (by rw [h3];simp)
      ·rw [aW.1 ho];exact .inr rfl)
variable {xs es l:List Nd}
theorem CC {nd:St} (hnd:er nd xs=true) (s:St):belowP xs (xs.length+1) s nd=decide (nd∈oW xs s):=by
 have:=wR xs;exact uV hnd _ _ [] s (by omega) (by omega) (by simp) (by simp)
theorem ET (hu:(ids xs).Nodup) {x:Nd} (hx:x∈xs):xs.find? (eZ x.id)=some x:=by
 induction xs with
 |nil=>cases hx
 |cons a r ih=>
  unfold ids at hu ih;rw [bB,List.nodup_cons] at hu;rcases aQ.1 hx with rfl|hx
  ·simp [eZ]
  ·have hne:a.id≠x.id:=λe=>hu.1 (e ▸ List.mem_map_of_mem hx)
   rw [List.find?_cons_of_neg (by simp [eZ,hne])];exact ih hu.2 hx
theorem LN (hp:xs.Perm es) (hu:(ids es).Nodup) (s:St):xs.find? (eZ s)=es.find? (eZ s):=by
 have hu':(ids xs).Nodup:=(hp.map Nd.id).nodup_iff.2 hu;cases h:es.find? (eZ s) with
 |none=>
  rw [List.find?_eq_none] at h ⊢;exact λx hx=>h x (hp.mem_iff.1 hx)
 |some y=>
  have hy:=List.mem_of_find?_eq_some h;have hs:y.id=s:=by have:=List.find?_some h;simpa [eZ] using this
  have:=ET hu' (hp.mem_iff.2 hy);rw [hs] at this;exact this
theorem jl (hp:xs.Perm es) (hu:(ids es).Nodup) (s:St):eX s xs=eX s es/\er s xs=er s es:=by
 unfold eX er;rw [LN hp hu s];exact ⟨rfl,rfl⟩
theorem EU (hp:xs.Perm es) (hu:(ids es).Nodup) (s:St):gM s xs=gM s es:=by
 unfold gM;rw [(jl hp hu s).1,(jl hp hu s).2]
theorem uW {xs es:List Nd} (hp:xs.Perm es) (hu:(ids es).Nodup) (nd:St):∀(f:Nat) (s:St),belowP xs f s nd=belowP es f s nd
 |0,_=>rfl
 |f+1,s=>by
  unfold belowP;rw [(jl hp hu s).1,(jl hp hu s).2,uW hp hu nd f]
theorem Gk (hp:xs.Perm es) (hu:(ids es).Nodup) (x:dX) (y:Nd) (b:Bool):fZ xs x y b=fZ es x y b:=by
 unfold fZ;rw [EU hp hu,hp.length_eq,uW hp hu]
theorem oK (n:Nd) (hu:(ids es).Nodup):(jF es n).Perm (n :: es.filter λe=>!decide (e.id=n.id)):=by
 induction es with
 |nil=>exact List.Perm.refl _
 |cons a r ih=>
  unfold ids at hu ih;rw [bB,List.nodup_cons] at hu;by_cases h:a.id=n.id
  ·have hput:jF (a :: r) n=n :: r:=by
    unfold jF;simp [List.findIdx?_cons,eZ,h]
   have hf:(a :: r).filter (λe=>!decide (e.id=n.id))=r:=by
    rw [List.filter_cons_of_neg (by simp [h])];rw [List.filter_eq_self];intro e he;have:e.id≠n.id:=λe2=>hu.1 (h ▸ e2 ▸ List.mem_map_of_mem he)
    simp [this]
   rw [hput,hf]
  ·have hput:jF (a :: r) n=a :: jF r n:=by
    unfold jF;have hi:eZ n.id a=false:=by simp [eZ,h]
    rw [List.findIdx?_cons,hi];cases r.findIdx? (eZ n.id) with
    |none=>rfl
    |some i=>rfl
   rw [hput,List.filter_cons_of_pos (by simp [h])];exact ((ih hu.2).cons a).trans (List.Perm.swap _ _ _)
theorem P7 (hp:xs.Perm es) (hu:(ids es).Nodup) (x:dX):(uQ xs x).Perm (uQ es x):=by
 have hu':(ids xs).Nodup:=(hp.map Nd.id).nodup_iff.2 hu;unfold uQ AY;simp only;rw [(jl hp hu _).1,(jl hp hu _).2,Gk hp hu];split
 ·exact (oK _ hu').trans (((hp.filter _).cons _).trans (oK _ hu).symm)
 ·exact hp
theorem Gl (xs:List Nd) (y:Nd):(gI xs y).Perm (xs++[y]):=by
 unfold gI;have h1:(xs.take (rF xs y.id)++y :: xs.drop (rF xs y.id)).Perm (y :: (xs.take (rF xs y.id)++xs.drop (rF xs y.id))):=List.perm_middle;rw [bV] at h1;exact h1.trans (List.perm_append_singleton y xs).symm
theorem TH (xs:List Nd) (x:dX):(uI xs x).Perm (uQ xs x):=by
 cases hh:er x.node xs with
 |false=>
  have h1:=(pU hh).1;unfold uI uQ AY;rw [h1];simp only [hh];by_cases hk:x.kind=1
  ·rw [if_pos hk]
   unfold fZ;rw [if_pos hk];simp only [Bool.not_false,if_true];rw [pV (n:=⟨x.node,x.dir,_,x.nm,x.mf⟩) hh];exact Gl _ _
  ·rw [if_neg hk]
   unfold fZ;rw [if_neg hk];by_cases h2:x.kind=2
   ·simp [h2]
   ·by_cases h3:x.kind=3
    ·simp [h3]
    ·by_cases h4:x.kind=4 <;> simp [h2,h3,h4]
 |true=>
  obtain ⟨i,hi,h1,h2,h3⟩:=Iv hh;have hb:=CC hh x.par;have hput:∀n:Nd,n.id=x.node->jF xs n=xs.set i n:=λn e=>by unfold jF;rw [e,h1]
  have hg:xs.getD i nd0=xs[i]:=by simp [hi]
  unfold uI uQ AY;rw [h1];simp only [hh,h2,hg];by_cases hk:x.kind=1
  ·rw [if_pos hk]
   unfold fZ;rw [if_pos hk];simp
  ·rw [if_neg hk]
   unfold fZ DG;rw [if_neg hk];by_cases k2:x.kind=2
   ·rw [if_pos k2,if_pos k2,hb]
    cases hc:(gM x.par xs && !decide (x.node∈oW xs x.par)) with
    |true=>
     simp only [Bool.true_and,hc,if_true];exact List.Perm.of_eq (by symm;apply hput;exact h3)
    |false=>simp [hc]
   ·rw [if_neg k2,if_neg k2]
    by_cases k3:x.kind=3
    ·rw [if_pos k3,if_pos k3]
     cases hc:xs[i].dir with
     |true=>simp
     |false=>
      simp only [Bool.true_and,Bool.not_false,if_true,bp,if_false];exact List.Perm.of_eq (by symm;apply hput;exact h3)
    ·rw [if_neg k3,if_neg k3]
     by_cases k4:x.kind=4
     ·rw [if_pos k4,if_pos k4]
      simp only [if_true];exact List.Perm.of_eq (by symm;apply hput;exact h3)
     ·rw [if_neg k4,if_neg k4]
      simp
theorem LP (L:List dX):∀(xs es:List Nd),xs.Perm es->(ids es).Nodup->(L.foldl uI xs).Perm (L.foldl uQ es):=by
 induction L with
 |nil=>exact λxs es h _=>h
 |cons x L ih=>
  intro xs es h hu;exact ih _ _ ((TH xs x).trans (P7 h hu x)) (AZ x hu)
theorem xl (L:List dX):(fL L).Perm (i6 L):=LP L [] [] (List.Perm.refl _) List.Pairwise.nil
theorem qy {s:St} {z:Nd} (h:z∈xs.take (rF xs s)):di s z.id=false:=by
 obtain ⟨j,hj,rfl⟩:=bR.1 h;rw [aR] at hj;rw [List.getElem_take];unfold rF at hj;cases hf:xs.findIdx? (λz=>di s z.id) with
 |none=>
  have:=bK.1 hf xs[j] (aa _);exact this
 |some k=>
  rw [hf] at hj;obtain ⟨hk,_,h3⟩:=au.1 hf;have:=h3 j (by simp at hj;omega);simpa using this
theorem P8 {s:St} {z:Nd} (h:xs.drop (rF xs s)=z :: l):di s z.id=true:=by
 unfold rF at h;cases hf:xs.findIdx? (λz=>di s z.id) with
 |none=>rw [hf] at h;simp at h
 |some k=>
  rw [hf] at h;obtain ⟨hk,h2,_⟩:=au.1 hf;simp only [bw] at h;rw [List.drop_eq_getElem_cons hk] at h;have:=(List.cons.inj h).1;rw [<-this];exact h2
def iR (xs:List Nd):Prop:=xs.Pairwise λa b=>di a.id b.id=true
theorem pG {y:Nd} (h:iR xs) (hn:∀z∈xs,z.id≠y.id):iR (gI xs y):=by
 unfold gI iR at*;have hsp:(xs.take (rF xs y.id)++xs.drop (rF xs y.id)).Pairwise λa b=>di a.id b.id=true:=by rw [bV];exact h
 rw [List.pairwise_append] at hsp;obtain ⟨h1,h2,h3⟩:=hsp;rw [List.pairwise_append,cU];have Hy:∀a∈xs.take (rF xs y.id),di a.id y.id=true:=λa ha=>nW (qy ha) (λe=>hn a (cS ha) e.symm)
 have UK:∀b∈xs.drop (rF xs y.id),di y.id b.id=true:=λb hb=>by
  cases hd:xs.drop (rF xs y.id) with
  |nil=>rw [hd] at hb;cases hb
  |cons z l=>
   have hz:=P8 hd;rw [hd] at hb h2;rcases aQ.1 hb with rfl|hb
   ·exact hz
   ·exact jk hz ((cU.1 h2).1 b hb)
 refine ⟨h1,⟨UK,h2⟩,λa ha b hb=>?_⟩;rcases aQ.1 hb with rfl|hb
 ·exact Hy a ha
 ·exact h3 a ha b hb
theorem Gm{ys:List Nd} (h:ids xs=ids ys) (hs:iR xs):iR ys:=by
 unfold iR at*;have h1:(ids xs).Pairwise λa b=>di a b=true:=by unfold ids;rw [cV];exact hs
 rw [h] at h1;unfold ids at h1;rw [cV] at h1;exact h1
theorem LQ (h:iR xs) (x:dX):iR (uI xs x):=by
 unfold uI;cases hf:xs.findIdx? (eZ x.node) with
 |none=>
  simp only;split
  ·refine pG h (λz hz e=>?_)
   have:=bK.1 hf z hz;simp [eZ] at this;exact this e
  ·exact h
 |some i=>
  simp only;obtain ⟨hi,h1,_⟩:=au.1 hf;have hid:xs[i].id=x.node:=of_decide_eq_true h1;have hg:xs.getD i nd0=xs[i]:=by simp [hi]
  split
  ·exact h
  ·split
   ·next y hy=>
    have:y.id=xs[i].id:=by
     rw [hg] at hy;unfold DG at hy;split at hy
     ·split at hy
      ·cases hy;rfl
      ·cases hy
     ·split at hy
      ·split at hy
       ·cases hy
       ·cases hy;rfl
      ·split at hy
       ·cases hy;rfl
       ·cases hy
    exact Gm (vj hi this.symm).symm h
   ·exact h
theorem CD (L:List dX):iR (fL L):=by
 have:∀(L:List dX) (xs:List Nd),iR xs->iR (L.foldl uI xs):=by
  intro L;induction L with
  |nil=>exact λxs h=>h
  |cons x L ih=>exact λxs h=>ih _ (LQ h x)
 exact this L [] List.Pairwise.nil
theorem Ak:∀{xs ys:List Nd},iR xs->iR ys->xs.Perm ys->xs=ys
 | [],ys,_,_,hp=>hp.nil_eq
 |a :: r,[],_,_,hp=>absurd hp.length_eq (by simp)
 |a :: r,b :: t,hx,hy,hp=>by
  have h1:=cU.1 hx;have h2:=cU.1 hy;have hab:a=b:=by
   rcases aQ.1 (hp.mem_iff.1 List.mem_cons_self) with h|h
   ·exact h
   ·rcases aQ.1 (hp.mem_iff.2 List.mem_cons_self) with h'|h'
    ·exact h'.symm
    ·have e1:=h1.1 b h'
     have e2:=h2.1 a h;rw [xN e1] at e2;cases e2
  subst hab;rw [Ak h1.2 h2.2 (List.Perm.cons_inv hp)]
theorem uX {L:List dX} {s:List Nd} (hp:s.Perm (i6 L)) (hs:s.Pairwise λa b=>di b.id a.id=false):s=fL L:=by
 have hu:(ids s).Nodup:=(hp.map Nd.id).nodup_iff.2 (Dv L);refine Ak ?_ (CD L) (hp.trans (xl L).symm);unfold ids at hu;rw [List.Nodup,cV] at hu;exact (hs.and hu).imp (fun {a b} h=>nW h.1 (λe=>h.2 e.symm))
end
end Go.Proofs.YtgdaahffmcfhpaaGreatDoor
