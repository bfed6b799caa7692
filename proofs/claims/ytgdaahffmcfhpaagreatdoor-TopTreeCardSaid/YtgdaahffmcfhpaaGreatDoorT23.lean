/- Lemmas on the way: VNa VNb VSa VSb CopyC VQ VR. -/
import Derived.Maps.Range
import Derived.Lib.AppendZerosOnto
import Derived.Lib.Overlaps
import Derived.Laws.IdiomCopy
import Derived.Laws.Externs
import Derived.Test.YtgdaahffmcfhpaaGreatDoorT07
import Derived.Test.YtgdaahffmcfhpaaGreatDoorT00
set_option maxRecDepth 100000
set_option maxHeartbeats 8000000
namespace Go.Proofs.YtgdaahffmcfhpaaGreatDoor
open Tryz
section
open Go.RowKit
open Go.ChangeMaps (setBlock)
attribute [local go_sem] dO dL dQ dM
def iE (l:List (Nd×Nat)):List (St×Value×Nat):=l.map fun p=>(p.1.id,nv p.1,p.2)
def iX (l:List (Nd×Nat)):List MapEntry:=(iE l).map (jb sv)
def ids (xs:List Nd):List St:=xs.map (·.id)
def gP (w:World) (b:Nat) (es:List Nd):Prop:=
 ∃(l:List (Nd×Nat)) (clock:Nat),l.map (·.1)=es/\w.heap[b]? =some (.map (iX l).toArray clock)/\(l.map (·.2)).Nodup/\(∀e∈l,e.2 < clock)/\(ids es).Nodup
section
variable {w w':World} {b:Nat} {es:List Nd}
theorem gP.lt (h:gP w b es):b < w.heap.size:=by
 obtain ⟨l,c,_,hb,_⟩:=h;rcases aG b w.heap.size with hlt|hge
 ·exact hlt
 ·rw [ak hge] at hb;cases hb
theorem gP.heap (h:gP w b es) (hb:w'.heap[b]? =w.heap[b]?):gP w' b es:=by
 obtain ⟨l,c,h1,h2,rest⟩:=h;exact ⟨l,c,h1,hb.trans h2,rest⟩
theorem gP.below (h:gP w b es) (hb:Below w.heap.size w w'):gP w' b es:=h.heap (hb.block b h.lt)
theorem gP.grown {row:Option Nat} (h:gP w b es) (hb:w.grownBy w' row) (hg:some b≠row):gP w' b es:=h.heap (hb.block b h.lt hg)
theorem gP.new (w:World):gP (w.alloc (.map #[] 0)) w.heap.size []:=⟨[],0,rfl,heap_alloc_new w _,List.Pairwise.nil,by simp,List.Pairwise.nil⟩
theorem gP.ne_blk (h:gP w b es) {g:Nat} {t:TypeId} {cs:Array Value} (hg:Blk w g t cs):b≠g:=by
 rintro rfl;obtain ⟨l,c,_,hb,_⟩:=h;unfold Blk at hg;rw [hb] at hg;cases hg
end
theorem jW:MapTy prog sv 63 30 38 (nv nd0) where
 map_:=by kernel_rfl
 zero:=fun w=>by simp [go_sem,nv,nd0,bs]
 eq:=fun x y w=>SG x y w
 check:=fun e x w=>C5 e x 9998 w
 wide:=⟨_,underlying30,fun a b=>rfl⟩
 bits:=fun s=>by simp [Instr.sameBits,sv]
theorem mw (s:St):∀l:List (Nd×Nat),place (iE l) s=((l.map (·.1)).findIdx? (en s)).map fun i=>(i,((l.getD i (nd0,0)).1.id,nv (l.getD i (nd0,0)).1,(l.getD i (nd0,0)).2))
 | []=>rfl
 |e :: r=>by
  have ih:=mw s r;unfold iE at ih ⊢;simp only [ai,place,List.findIdx?_cons,en];by_cases c:s=e.1.id
  ·subst c
   simp
  ·have c':¬ e.1.id=s:=fun h=>c h.symm
   simp only [c,c',if_false,decide_false,bR];rw [ih];cases (r.map (·.1)).findIdx? (en s) with
   |none=>rfl
   |some i=>simp
theorem iu {s:St} {xs:List Nd}:(∀i,xs.findIdx? (en s)=some i->∃h:i < xs.length,xs.find? (en s)=some xs[i]/\xs[i].id=s)/\(xs.findIdx? (en s)=none->xs.find? (en s)=none):=by
 refine ⟨fun i h=>?_,fun h=>?_⟩
 ·obtain ⟨hi,h2,h3⟩:=bB.1 h
  refine ⟨hi,?_,by simpa [en] using h2⟩;rw [List.find?_eq_some_iff_getElem];exact ⟨h2,i,hi,rfl,fun j hj=>by have:=h3 j hj;simpa using this⟩
 ·rw [bP] at h
  exact List.find?_eq_none.2 fun x hx=>by rw [h x hx];simp
theorem gP.look2 {w:World} {b:Nat} {es:List Nd} (h:gP w b es) (s:St):
  (Instr.lookup 63 (.map (some b)) (sv s) true).run prog w=.ok (.tuple #[nv (eP s es),.bool (ek s es)]) w:=by
 obtain ⟨l,c,rfl,hb,_⟩:=h;have nY:=finding jW s w (iE l);simp only [Instr.lookup,Sem.run_bind,run_underlying jW.map_,Go.MapKept.run_getObj_map hb,Sem.run_pure,Result.andThen_ok,jW.check];unfold iX;rw [nY,mw];unfold eP ek;have hf:=iu (s:=s) (xs:=l.map (·.1));cases hp:(l.map (·.1)).findIdx? (en s) with
 |none=>
  rw [hf.2 hp];simp [jW.zero]
 |some i=>
  obtain ⟨hi,h1,_⟩:=hf.1 i hp;rw [h1];have hi':i < l.length:=by simpa using hi
  simp [List.getD_eq_getElem?_getD,hi']
theorem gP.len {w:World} {b:Nat} {es:List Nd} (h:gP w b es) (ty:TypeId):(Builtin.len_ #[63] ty #[.map (some b)]).run prog w=.ok (.int .i64 es.length) w:=by
 obtain ⟨l,c,rfl,hb,_⟩:=h;unfold Builtin.len_;simp only [Sem.run_bind,aP,aS,run_underlying jW.map_,Result.andThen_ok,MapKept.run_getObj_map hb,Sem.run_pure];simp [iX,iE,goInt]
def iY (es:List Nd) (n:Nd):List Nd:=match es.findIdx? (en n.id) with
 |some i=>es.set i n
 |none=>es++[n]
def Ci (es:List Nd) (s:St):List Nd:=match es.findIdx? (en s) with
 |some i=>es.eraseIdx i
 |none=>es
theorem QN (l:List (Nd×Nat)) (i:Nat) (n:Nd) (hi:i < l.length):((iX l).toArray.modify i fun e=>{ e with key:=sv n.id,val:=nv n })=(iX (l.set i (n,l[i].2))).toArray:=by
 apply Array.ext_getElem?;intro j;simp only [iX,iE,Array.getElem?_modify,aP,cR,List.getElem?_set];by_cases cj:i=j
 ·subst cj;simp [hi,jb]
 ·simp [cj]
theorem uY {xs:List Nd} {i:Nat} {n:Nd} (hi:i < xs.length) (h:xs[i].id=n.id):ids (xs.set i n)=ids xs:=by
 apply List.ext_getElem?;intro j;simp only [ids,cR,List.getElem?_set];by_cases cj:i=j
 ·subst cj;simp [hi,h]
 ·simp [cj]
theorem sC {α β:Type} (f:α->β):∀(l:List α) (i:Nat),(l.eraseIdx i).map f=(l.map f).eraseIdx i
 | [],_=>rfl
 |a :: r,0=>rfl
 |a :: r,i+1=>by simp [List.eraseIdx_cons_succ,sC f r i]
theorem gP.put {w:World} {b:Nat} {es:List Nd} (h:gP w b es) (n:Nd):
  ∃w1,(Instr.mapUpdate 63 (.map (some b)) (sv n.id) (nv n)).run prog w=.ok () w1/\gP w1 b (iY es n)/\w.grownBy w1 (some b)/\w1.heap.size=w.heap.size:=by
 obtain ⟨l,c,rfl,hb,hnd,hlt,hid⟩:=h;have nY:=finding jW n.id w (iE l);rw [mw] at nY;have hf:=iu (s:=n.id) (xs:=l.map (·.1));cases hp:(l.map (·.1)).findIdx? (en n.id) with
 |some i=>
  obtain ⟨hi,h1,WU⟩:=hf.1 i hp;have hi':i < l.length:=by simpa using hi
  obtain ⟨w1,hr,dR,hg1,hs1⟩:=set_obj (P:=prog) (.map (iX (l.set i (n,l[i].2))).toArray c) hb;have hput:iY (l.map (·.1)) n=(l.set i (n,l[i].2)).map (·.1):=by unfold iY;rw [hp];simp [List.map_set]
  refine ⟨w1,?_,⟨l.set i (n,l[i].2),c,hput.symm,dR,?_,fun e he=>?_,?_⟩,hg1,hs1⟩
  ·rw [hp] at nY
   simp only [Instr.mapUpdate,Sem.run_bind,run_underlying jW.map_,Go.MapKept.run_getObj_map hb,Result.andThen_ok,jW.check];rw [show (iX l)=(iE l).map (jb sv) from rfl,nY];have h2:(((iE l).map (jb sv)).toArray[i]?).map (·.key)=some (sv n.id):=by
    have:l[i].1.id=n.id:=by simpa using WU
    simp [iE,jb,hi',this]
   have hm:=QN l i n hi';unfold iX at hm;simp only [bU,Result.andThen_ok,h2,Option.getD_some,Instr.keyThatStays,jW.bits,if_true,Sem.run_bind,Sem.run_pure,hm];exact hr
  ·have:(l.set i (n,l[i].2)).map (·.2)=l.map (·.2):=by
    apply List.ext_getElem?;intro j;simp only [cR,List.getElem?_set];by_cases cj:i=j
    ·subst cj;simp [hi']
    ·simp [cj]
   rw [this];exact hnd
  ·rcases List.mem_or_eq_of_mem_set he with he|rfl
   ·exact hlt e he
   ·exact hlt l[i] (ag hi')
  ·have h3:iY (l.map (·.1)) n=(l.map (·.1)).set i n:=by unfold iY;rw [hp]
   rw [h3,uY hi WU];exact hid
 |none=>
  have hno:=hf.2 hp;obtain ⟨w1,hr,dR,hg1,hs1⟩:=set_obj (P:=prog) (.map (iX (l++[(n,c)])).toArray (c+1)) hb;have hput:iY (l.map (·.1)) n=(l++[(n,c)]).map (·.1):=by unfold iY;rw [hp];simp
  refine ⟨w1,?_,⟨l++[(n,c)],c+1,hput.symm,dR,?_,fun e he=>?_,?_⟩,hg1,hs1⟩
  ·rw [hp] at nY
   simp only [Instr.mapUpdate,Sem.run_bind,run_underlying jW.map_,Go.MapKept.run_getObj_map hb,Result.andThen_ok,jW.check];rw [show (iX l)=(iE l).map (jb sv) from rfl,nY];have hm:(iX l).toArray.push { key:=sv n.id,val:=nv n,born:=c }=(iX (l++[(n,c)])).toArray:=by simp [iX,iE,jb]
   unfold iX at hm;simp only [Option.map_none,Result.andThen_ok,hm];exact hr
  ·rw [bV]
   refine cS.2 ⟨hnd,by simp,?_⟩;intro a ha b hb';obtain ⟨x,hx,rfl⟩:=aV.1 ha;simp at hb';have:=hlt x hx;omega
  ·rcases aj.1 he with h|h
   ·have:=hlt e h;omega
   ·simp at h;rw [h];exact Nat.lt_succ_self _
  ·have h3:iY (l.map (·.1)) n=l.map (·.1)++[n]:=by unfold iY;rw [hp]
   rw [h3];unfold ids at hid ⊢;rw [bV];refine cS.2 ⟨hid,by simp,?_⟩;intro a ha b hb';obtain ⟨x,hx,rfl⟩:=aV.1 ha;simp at hb';have:=List.find?_eq_none.1 hno x hx;simp [en] at this;rw [hb'];exact this
theorem gP.del {w:World} {b:Nat} {es:List Nd} (h:gP w b es) (s:St) (ty:TypeId):
  ∃w1,(Builtin.delete_ #[63,30] ty #[.map (some b),sv s]).run prog w=.ok (.tuple #[]) w1/\gP w1 b (Ci es s)/\w.grownBy w1 (some b)/\w1.heap.size=w.heap.size:=by
 obtain ⟨l,c,rfl,hb,hnd,hlt,hid⟩:=h;have nY:=finding jW s w (iE l);rw [mw] at nY;have hf:=iu (s:=s) (xs:=l.map (·.1));cases hp:(l.map (·.1)).findIdx? (en s) with
 |some i=>
  obtain ⟨hi,h1,WU⟩:=hf.1 i hp;have hi':i < l.length:=by simpa using hi
  obtain ⟨w1,hr,dR,hg1,hs1⟩:=set_obj (P:=prog) (.map (iX (l.eraseIdx i)).toArray c) hb;have Ds:Ci (l.map (·.1)) s=(l.eraseIdx i).map (·.1):=by unfold Ci;rw [hp];simp [sC]
  refine ⟨w1,?_,⟨l.eraseIdx i,c,Ds.symm,dR,?_,fun e he=>hlt e (List.mem_of_mem_eraseIdx he),?_⟩,hg1,hs1⟩
  ·rw [hp] at nY
   unfold Builtin.delete_;simp only [Sem.run_bind,aP,aS,aW,run_underlying jW.map_,Result.andThen_ok,MapKept.run_getObj_map hb,jW.check];rw [show (iX l)=(iE l).map (jb sv) from rfl,nY];have hm:(iX l).toArray.eraseIdxIfInBounds i=(iX (l.eraseIdx i)).toArray:=by
    apply Array.toList_inj.1;simp [iX,iE,Array.eraseIdxIfInBounds,hi',sC]
   unfold iX at hm;simp only [bU,Result.andThen_ok,hm];rw [show (iE (l.eraseIdx i)).map (jb sv)=iX (l.eraseIdx i) from rfl,Sem.run_bind,hr];rfl
  ·exact (List.Sublist.map _ (List.eraseIdx_sublist l i)).nodup hnd
  ·rw [Ds]
   exact (List.Sublist.map _ (List.Sublist.map _ (List.eraseIdx_sublist l i))).nodup hid
 |none=>
  obtain ⟨w1,hr,dR,hg1,hs1⟩:=set_obj (P:=prog) (.map (iX l).toArray c) hb;have Ds:Ci (l.map (·.1)) s=l.map (·.1):=by unfold Ci;rw [hp]
  refine ⟨w1,?_,⟨l,c,Ds.symm,dR,hnd,hlt,by rw [Ds];exact hid⟩,hg1,hs1⟩;rw [hp] at nY;unfold Builtin.delete_;simp only [Sem.run_bind,aP,aS,aW,run_underlying jW.map_,Result.andThen_ok,MapKept.run_getObj_map hb,jW.check];rw [show (iX l)=(iE l).map (jb sv) from rfl,nY];simp only [Option.map_none,Result.andThen_ok];rw [show (iE l).map (jb sv)=iX l from rfl,Sem.run_bind,hr];rfl
theorem Tl (w:World):(Instr.makeMap 63 none).run prog w=.ok (.map (some w.heap.size)) (w.alloc (.map #[] 0)):=by simp [Instr.makeMap,go_sem]
end
section
open Go.RowKit
open Go.ChangeMaps (setBlock)
def jC (w:World) (b r:Nat) (es rest:List Nd):Prop:=
 ∃(l:List (Nd×Nat)) (clock:Nat) (seen:Array Nat) (c0:Nat),l.map (·.1)=es/\w.heap[b]? =some (.map (iX l).toArray clock)/\(l.map (·.2)).Nodup/\(∀e∈l,e.2 < clock)/\(ids es).Nodup/\
  w.heap[r]? =some (.mapIter (some b) clock seen c0)/\clock<=c0/\(l.filter fun e=>!seen.contains e.2).map (·.1)=rest
section
variable {w w':World} {b r:Nat} {es rest:List Nd}
theorem jC.map (h:jC w b r es rest):gP w b es:=by
 obtain ⟨l,c,seen,c0,h1,h2,h3,h4,h5,_⟩:=h;exact ⟨l,c,h1,h2,h3,h4,h5⟩
theorem gQ {w:World} {b:Nat} {o:Obj} (hb:w.heap[b]? =some o):b < w.heap.size:=by
 rcases aG b w.heap.size with hlt|hge
 ·exact hlt
 ·rw [ak hge] at hb;cases hb
theorem jC.lt (h:jC w b r es rest):r < w.heap.size:=by
 obtain ⟨l,c,seen,c0,_,_,_,_,_,hb,_⟩:=h;exact gQ hb
theorem jC.heap (h:jC w b r es rest) (hb:w'.heap[b]? =w.heap[b]?) (hr:w'.heap[r]? =w.heap[r]?):jC w' b r es rest:=by
 obtain ⟨l,c,seen,c0,h1,h2,h3,h4,h5,h6,rest⟩:=h;exact ⟨l,c,seen,c0,h1,hb.trans h2,h3,h4,h5,hr.trans h6,rest⟩
theorem jC.below (h:jC w b r es rest) (hb:Below w.heap.size w w'):jC w' b r es rest:=h.heap (hb.block b h.map.lt) (hb.block r h.lt)
theorem jC.alloc (h:jC w b r es rest) (o:Obj):jC (w.alloc o) b r es rest:=h.below ((aC _ w).alloc (aB _) o)
theorem ki (l:List (Nd×Nat)) (seen:Array Nat):(leftOf (iX l).toArray seen).toList=iX (l.filter fun e=>!seen.contains e.2):=by
 unfold leftOf iX iE;simp only [List.map_map,List.filter_toArray,List.filter_map];rfl
theorem qt {l:List (Nd×Nat)} {e:MapEntry} (h:e∈iX l):∃p∈l,e=jb sv (p.1.id,nv p.1,p.2):=by
 unfold iX iE at h;rw [List.map_map] at h;obtain ⟨p,hp,rfl⟩:=aV.1 h;exact ⟨p,hp,rfl⟩
theorem vm (l:List (Nd×Nat)):(iX l).map (·.born)=l.map (·.2):=by
 unfold iX iE;simp [jb,Function.comp_def]
theorem mH {seen:Array Nat} {p:Nd×Nat}:∀{l:List (Nd×Nat)},(l.map (·.2)).Nodup->p∈l->seen.contains p.2=false->
  (l.filter fun x=>!seen.contains x.2).Perm (p :: (l.filter fun x=>!(seen.push p.2).contains x.2))
 | [],_,h,_=>by cases h
 |a :: r,hn,h,hs=>by
  rw [ai,List.nodup_cons] at hn;obtain ⟨oz,hn2⟩:=hn;by_cases ha:a=p
  ·subst ha
   have hr:r.filter (fun x=>!(seen.push a.2).contains x.2)=r.filter (fun x=>!seen.contains x.2):=by
    apply List.filter_congr;intro x hx;have hne:x.2≠a.2:=fun e'=>oz (e' ▸ aV.2 ⟨x,hx,rfl⟩)
    simp [hne]
   have h1:(!(seen.push a.2).contains a.2)=false:=by simp
   have h2:(!seen.contains a.2)=true:=by rw [hs];rfl
   rw [bZ,bZ,h1,h2,hr];simp
  ·have he:p∈r:=by rcases aR.1 h with h|h;exact absurd h.symm ha;exact h
   have ih:=mH hn2 he hs;have hne:a.2≠p.2:=fun e'=>oz (e' ▸ aV.2 ⟨p,he,rfl⟩)
   have h1:(!(seen.push p.2).contains a.2)=(!seen.contains a.2):=by simp [hne]
   rw [bZ,bZ,h1];cases (!seen.contains a.2) with
   |false=>simpa using ih
   |true=>
    simp only [if_true];exact (ih.cons a).trans (List.Perm.swap _ _ _)
theorem jC.left (h:jC w b r es rest):w.rangeLeft b r=rest.length:=by
 obtain ⟨l,c,seen,c0,_,hb,_,_,_,hr,_,hc⟩:=h;unfold World.rangeLeft;rw [hb,hr];simp only;rw [<-hc,bM,<-bp,ki];simp [iX,iE]
theorem jC.next {P:Program} (h:jC w b r es rest) (ty:TypeId):
  (rest=[]/\(Instr.next (.pointer (some ⟨r,0,none⟩)) false ty).run P w=.ok (.tuple #[.bool false]) w)\/
  ∃n rest' w',rest.Perm (n :: rest')/\(Instr.next (.pointer (some ⟨r,0,none⟩)) false ty).run P w=.ok (.tuple #[.bool true,sv n.id,nv n]) w'/\jC w' b r es rest'/\w.grownBy w' (some r)/\w'.heap.size=w.heap.size/\
   (Instr.entry (.pointer (some ⟨r,0,none⟩))).run P w'=.ok (.tuple #[sv n.id,nv n]) w':=by
 obtain ⟨l,c,seen,c0,hl,hb,hnd,hlt,hid,hr,hle,hc⟩:=h;have qS:b≠r:=by rintro rfl;rw [hb] at hr;cases hr
 have hold:∀x∈(iX l).toArray.toList,x.born < c:=fun x hx=>by
  obtain ⟨p,hp,rfl⟩:=qt (by simpa using hx);exact hlt p hp
 rcases run_next_at (P:=P) w ty r b c c0 seen (iX l).toArray c hr hb hold hle with ⟨h0,hrun⟩| ⟨e,he,w1,eN,hrun⟩
 ·have hnil:l.filter (fun x=>!seen.contains x.2)=[]:=by
   have h1:=ki l seen;rw [bH (show (leftOf (iX l).toArray seen).toList.length=0 by rw [bp];exact h0)] at h1;have:=congrArg List.length h1;simp only [iX,iE,ah,bM] at this;exact bH this.symm
  rw [hnil] at hc;exact .inl ⟨hc.symm,hrun⟩
 ·rw [ki] at he
  obtain ⟨p,hp,rfl⟩:=qt he;obtain ⟨hpl,hps⟩:=List.mem_filter.1 hp;have V5:seen.contains p.2=false:=by simpa using hps
  have V6:=mH hnd hpl V5;have Dj:w1.heap[r]? =some (.mapIter (some b) c seen c0):=by rcases eN with rfl|rfl <;> exact hr
  have gR:=MapKept.heap_set (o':=.mapIter (some b) c (seen.push p.2) c) Dj;have hb':(setBlock w1 r (.mapIter (some b) c (seen.push p.2) c)).heap[b]? =some (.map (iX l).toArray c):=(gR.2 b (fun e1=>qS e1)).trans (by rcases eN with rfl|rfl <;> exact hb);refine .inr ⟨p.1,(l.filter fun x=>!(seen.push p.2).contains x.2).map (·.1),_,?_,hrun,⟨l,c,seen.push p.2,c,hl,hb',hnd,hlt,hid,gR.1,aB _,rfl⟩,?_,?_,?_⟩
  ·rw [<-hc]
   exact V6.map _
  ·have hg1:w.grownBy w1 (some r):=by rcases eN with rfl|rfl;exact dx _ _;exact jv (dx _ _)
   exact fT hg1 ⟨rfl,rfl,rfl,by simp [setBlock],fun i _ hne=>gR.2 i (fun e=>hne (by rw [e]))⟩
  ·have:w1.heap.size=w.heap.size:=by rcases eN with rfl|rfl <;> rfl
   rw [<-this];simp [setBlock]
  ·exact run_entry_at (P:=P) _ r b c seen (iX l).toArray c _ gR.1 hb' (by
    have h2:jb sv (p.1.id,nv p.1,p.2)∈iX l:=by unfold iX iE;exact aV.2 ⟨_,aV.2 ⟨p,hpl,rfl⟩,rfl⟩
    simpa using h2) (by
    have:=vm l;simpa [this] using hnd)
theorem gP.range (h:gP w b es):
  ∃w',(Instr.range 63 (.map (some b))).run prog w=.ok (.pointer (some ⟨w.heap.size,0,none⟩)) w'/\jC w' b w.heap.size es es/\Below w.heap.size w w'/\w'.heap.size=w.heap.size+1:=by
 have hlt:=h.lt;obtain ⟨l,c,hl,hb,hnd,hlt',hid⟩:=h;refine ⟨_,run_range_map w 63 30 38 b _ _ jW.map_ hb,⟨l,c,#[],c,hl,(bE w _ b hlt).trans hb,hnd,hlt',hid,heap_alloc_new w _,aB _,?_⟩,(aC _ w).alloc (aB _) _,by simp⟩;rw [<-hl];congr 1;simp
end
end
section
open Go.RowKit
attribute [local go_sem] dO dL dQ dM
def zn:Array Value:=#[.int .i64 0,.int .i64 0,.bool false,.int .i64 0,.int .i64 0,.string ⟨#[]⟩,.string ⟨#[]⟩]
structure kH (w:World) (p m:Nat) (v:Value) (r:Int) (es:List Nd):Prop where
 blk:Blk w p 66 #[v,.map (some m),.int .i64 r]
 map:gP w m es
section
variable {w w':World} {p m:Nat} {v:Value} {r:Int} {es:List Nd}
theorem kH.below (h:kH w p m v r es) (hb:Below w.heap.size w w'):kH w' p m v r es:=⟨h.blk.below hb h.blk.lt,h.map.below hb⟩
theorem kH.c0 (h:kH w p m v r es):w.cell? ⟨p,0,none⟩=some v:=by rw [h.blk.cell];rfl
theorem kH.c1 (h:kH w p m v r es):w.cell? ⟨p,1,none⟩=some (.map (some m)):=by rw [h.blk.cell];rfl
theorem kH.c2 (h:kH w p m v r es):w.cell? ⟨p,2,none⟩=some (.int .i64 r):=by rw [h.blk.cell];rfl
theorem kH.alloc (h:kH w p m v r es) (o:Obj):kH (w.alloc o) p m v r es:=h.below ((aC _ w).alloc (aB _) o)
end
theorem vn (s:St) (p m:Nat) (v:Value) (r:Int) (es:List Nd) (w:World) (h:kH w p m v r es):
  Calls prog 149 #[.pointer (some ⟨p,0,none⟩),sv s] w (dJ w (.bool (fI s es))):=by
 have dR:=dD w (.cells #[.int .i64 s.1,.int .i64 s.2] 30);have hB:=Blk.new w 30 #[.int .i64 s.1,.int .i64 s.2];have q0:=hB.cell 0;have q1:=hB.cell 1;simp only [aP,aS,aW] at q0 q1;have h1:=h.alloc (.cells #[.int .i64 s.1,.int .i64 s.2] 30);have hz:=gU s (0,0);obtain ⟨w1,hw1⟩:=dB (w.alloc (.cells #[.int .i64 s.1,.int .i64 s.2] 30));rw [<-hw1] at dR h1 q0 q1;have c1:=h1.c1;have hl:=(h1.map.below (w':=(w1.alloc (.cells zn 38)).drew) ((aC _ w1).alloc (aB _) _).drew).look2 s;have tY:(Instr.lookup 63 (.map (some m)) (sv s) true).run prog w1.drew=.ok (.tuple #[nv (eP s es),.bool (ek s es)]) w1.drew:=(h1.map.below (w':=w1.drew) (aC _ w1).drew).look2 s;have k1:(w1.alloc (.cells zn 38)).cell? ⟨p,1,none⟩=some (.map (some m)):=cell?_alloc_old c1 _;have k0:(w1.alloc (.cells zn 38)).cell? ⟨w.heap.size,0,none⟩=some (.int .i64 s.1):=cell?_alloc_old q0 _;have k2:(w1.alloc (.cells zn 38)).cell? ⟨w.heap.size,1,none⟩=some (.int .i64 s.2):=cell?_alloc_old q1 _;have HW:=dH hw1;have HB:=dH dR;clear hw1 h1 dR hB h;unfold fI;unfold sv nv zn at*;generalize eP s es=y at*;generalize ek s es=is at*;go_enter func149,ntmps149;go_wp2_with fail;rw [<-HW.o];go_wp2_with fail;go_region;all_goals
  have eG:=dH (show Below w.heap.size w ((w1.alloc (.cells #[.int .i64 y.id.1,.int .i64 y.id.2,.bool y.dir,.int .i64 y.par.1,.int .i64 y.par.2,.string (bs y.nm),.string (bs y.mf)] 38)).drew) from (HB.o.alloc HB.o.size _).drew);have k3:=(Blk.new w1 38 (nc y).toArray).cell 2;have k4:=cell?_alloc_old q0 (.cells (nc y).toArray 38);have k5:=cell?_alloc_old q1 (.cells (nc y).toArray 38);unfold nc at k3 k4 k5;simp only [aP,aS,aW] at k3;clear k0 k1 k2 hl tY c1;cases h0:decide (s=(0,0)) with
  |true=>
   simp only [h0] at hz;go_wp2_with fail;go_ret;exact ⟨by simp [h0],eG.o⟩
  |false=>
   simp only [h0] at hz;cases is with
   |true=>
    go_wp2_with fail;go_ret;exact ⟨by simp [h0],eG.o⟩
   |false=>
    go_wp2_with fail;go_ret;exact ⟨by simp [h0],eG.o⟩
end
section
open Go.RowKit
attribute [local go_sem] dO dL dQ dM
def belowP (xs:List Nd):Nat->St->St->Bool
 |0,_,_=>false
 |f+1,id,nd=>if id=nd then true else if ek id xs then belowP xs f (eP id xs).par nd else false
structure SK (B0:Nat) (w0 wr:World) (id nd:St):Prop where
 b1:Blk wr B0 30 #[.int .i64 id.1,.int .i64 id.2]
 b2:Blk wr (B0+1) 30 #[.int .i64 nd.1,.int .i64 nd.2]
 below:Below B0 w0 wr
theorem SK.stay {B0:Nat} {w0 wr w':World} {id nd:St} (h:SK B0 w0 wr id nd) (hb:Below wr.heap.size wr w'):SK B0 w0 w' id nd:=
 ⟨h.b1.below hb h.b1.lt,h.b2.below hb h.b2.lt,h.below.trans (hb.mono (ay h.b1.lt))⟩
theorem SK.set_ {B0:Nat} {w0 wr:World} {id nd:St} (h:SK B0 w0 wr id nd) (s:St):SK B0 w0 ((wr.setCell ⟨B0,0,none⟩ (.int .i64 s.1)).setCell ⟨B0,1,none⟩ (.int .i64 s.2)) s nd:=by
 have gR:=Blk.set_ (Blk.set_ h.b1 0 (.int .i64 s.1)) 1 (.int .i64 s.2);exact ⟨by simpa using gR,Blk.far (Blk.far h.b2 (by simp) _) (by simp) _,(h.below.setCell (p:=⟨B0,0,none⟩) (aB _) _).setCell (p:=⟨B0,1,none⟩) (aB _) _⟩
theorem JH (s nd:St) (p m:Nat) (v:Value) (r:Int) (es:List Nd) (w:World) (h:kH w p m v r es) (hm:es.length<=1000000):
  Calls prog 150 #[.pointer (some ⟨p,0,none⟩),sv s,sv nd] w (dJ w (.bool (belowP es (es.length+1) s nd))):=by
 obtain ⟨w1,hw1⟩:=dB ((w.alloc (.cells #[.int .i64 s.1,.int .i64 s.2] 30)).alloc (.cells #[.int .i64 nd.1,.int .i64 nd.2] 30));have hB:SK w.heap.size w w1 s nd:=by
  rw [hw1];exact ⟨(Blk.new w 30 _).alloc _,by simpa using Blk.new (w.alloc (.cells #[.int .i64 s.1,.int .i64 s.2] 30)) 30 #[.int .i64 nd.1,.int .i64 nd.2],((aC _ w).alloc (aB _) _).alloc (by simp) _⟩
 have h1:kH w1 p m v r es:=h.below hB.below;have c1:=h1.c1;have hlen:∀ty,(Builtin.len_ #[63] ty #[.map (some m)]).run prog w1=.ok (.int .i64 es.length) w1:=h1.map.len;have hsz:=hB.b2.lt;rw [hw1] at c1 hlen;have HS:=dH h;have HB:=dH hB;have HW:=dH hw1;generalize hRR:belowP es (es.length+1) s nd=R;have HRR:=dH hRR;clear hw1 hB h h1 hRR;unfold sv;go_enter func150,ntmps150;go_wp2_with fail;rw [<-HW.o];clear c1 hlen;go_loopw [15] (fun i wr=>∃(k:Nat) (id:St),k<=es.length+1/\i=.int .i64 k/\SK w.heap.size w wr id nd/\belowP es (es.length+1 - k) id nd=R) (fun i _=>es.length+1 - (intOf i).toNat)
 case atStart=>exact ⟨0,s,by omega,rfl,HB.o,HRR.o⟩
 case round=>
  obtain ⟨k,id,hk,rfl,hB,hR⟩:=hrel;have hst:kH wr p m v r es:=HS.o.below hB.below;have c1:=hst.c1;have q0:=hB.b1.cell 0;have q1:=hB.b1.cell 1;have n0:=hB.b2.cell 0;have n1:=hB.b2.cell 1;simp only [aP,aS,aW] at q0 q1 n0 n1;rcases aG k (es.length+1) with hlt|hge
  ·have hki:(k:Int) < (es.length:Int)+1:=by omega
   have he:=gU id nd;rw [show es.length+1 - k=(es.length - k)+1 from by omega] at hR;unfold belowP at hR;by_cases h0:id=nd
   ·have hd:decide (id=nd)=true:=decide_eq_true h0
    rw [if_pos h0] at hR;have HR:=dH hR;simp only [hd] at he;have eG:=dH hB.below;clear hR h0 hB hst;go_wp2_with fail;go_ret;exact ⟨by rw [<-HR.o];rfl,eG.o⟩
   ·have hd:decide (id=nd)=false:=decide_eq_false h0
    rw [if_neg h0] at hR;have HR:=dH hR;have rH:=dH hB;simp only [hd] at he;have hl:=(hst.map.below (w':=(wr.alloc (.cells zn 38)).drew) ((aC _ wr).alloc (aB _) _).drew).look2 id;have tY:(Instr.lookup 63 (.map (some m)) (sv id) true).run prog wr.drew=.ok (.tuple #[nv (eP id es),.bool (ek id es)]) wr.drew:=(hst.map.below (w':=wr.drew) (aC _ wr).drew).look2 id;have k1:(wr.alloc (.cells zn 38)).cell? ⟨p,1,none⟩=some (.map (some m)):=cell?_alloc_old c1 _;have k0:(wr.alloc (.cells zn 38)).cell? ⟨w.heap.size,0,none⟩=some (.int .i64 id.1):=cell?_alloc_old q0 _;have k2:(wr.alloc (.cells zn 38)).cell? ⟨w.heap.size,1,none⟩=some (.int .i64 id.2):=cell?_alloc_old q1 _;clear hR h0 hB hst hd;unfold sv nv zn at*;generalize hy:eP id es=y at*;generalize RP:ek id es=is at*;have HY:=dH hy;have HI:=dH RP;clear hy RP;go_wp2_with fail;go_region;all_goals
     have eY:=rH.o.stay (w':=(wr.alloc (.cells (nc y).toArray 38)).drew) ((aC _ wr).alloc (aB _) _).drew;have dw:=dH eY.below;have fD:=dH (eY.set_ y.par);have k3:=(Blk.new wr 38 (nc y).toArray).cell 3;have k4:=(Blk.new wr 38 (nc y).toArray).cell 4;have fq:=rH.o.stay (w':=(wr.alloc (.cells (nc y).toArray 38))) ((aC _ wr).alloc (aB _) _);have f0:=fq.b1.frozen 0;have f1:=fq.b1.frozen 1;have q0':=fq.b1.cell 0;have q1':=fq.b1.cell 1;unfold nc at k3 k4 fD dw f0 f1 q0' q1';simp only [aP,aS,aW] at k3 k4 q0' q1';clear k0 k1 k2 hl tY c1 q0 q1 n0 n1 he eY fq;cases is with
     |false=>
      go_wp2_with fail;go_ret;exact ⟨by rw [<-HR.o];rfl,dw.o⟩
     |true=>
      go_wp2_with fail;exact ⟨⟨k+1,y.par,by omega,by go_num,fD.o,by
       rw [<-HR.o,show es.length+1 - (k+1)=es.length - k from by omega];rfl⟩,by simp [intOf];omega⟩
  ·have hkn:¬ (k:Int) < (es.length:Int)+1:=by omega
   have hf:es.length+1 - k=0:=by omega
   rw [hf] at hR;have HR:=dH hR;have eG:=dH hB.below;clear hR hf hB hst;go_wp2_with fail;go_ret;exact ⟨by rw [<-HR.o];rfl,eG.o⟩
end
section
open Go.RowKit
section
variable {P:Program}
theorem fP (w:World) (dT sT ty elem:TypeId) (size:Nat) (b o dLen dCap:Nat) (a:Addr) (sLen sCap:Nat) (cs:List Value)
  (hu:P.underlying dT=some (.slice elem)) (hs:(P.info? elem).map (·.size)=some size) (hn:cs.length=Nat.min sLen dLen*size)
  (hsrc:∀j v,cs[j]? =some v->w.cell? (a.add j)=some v) (hc:∀j,j < cs.length->(w.cell? ⟨b,o+j,none⟩).isSome=true) (hf:∀j,j < cs.length->w.frozen? ⟨b,o+j,none⟩=false) (h1:∀v∈cs,v.oneCell'=true):
  (Builtin.copy_ #[dT,sT] ty #[.slice (some ⟨b,o,none⟩) dLen dCap,.slice (some a) sLen sCap]).run P w=.ok (goInt (Nat.min sLen dLen:Nat)) (w.setCells b o cs):=by
 have hl:=run_loadCells_list (P:=P) w a cs hsrc;have hst:=run_storeCells_cells (P:=P) b o cs 0 w (by simpa using hc) (by simpa using hf) h1;cases hq:P.info? elem with
 |none=>simp [hq] at hs
 |some i=>
  have hi:i.size=size:=by simpa [hq] using hs
  simp only [bQ] at hst;rw [hn] at hl;simp [Builtin.copy_,run_underlying hu,Builtin.lenOf,Builtin.firstCells,sizeOf,typeInfo,hq,hi,hl,hst]
theorem iw {ops:Array Oper} {o:Oper} {a:Act} {w:World} {K:Act->World->Prop} {Q:Exit->Act->World->Prop} {E:Prop}
  (hg:o.guard=none) (d x:Operand) (dT sT:TypeId) (hop:o.op=Op.call { callee:=Callee.builtin Builtin.copy,args:=#[d,x],argTypes:=#[dT,sT] })
  (v u:Value) (hd:a.eval d=v) (hx:a.eval x=u) {v':Value} {w':World} (hr:(Builtin.copy_ #[dT,sT] o.type #[v,u]).run P w=.ok v' w') (hK:K (a.put o.dst v') w'):
  if Region.wanted o (yielded ops a.tmps)=true then Oper.wp P o a w K Q else E:=by
 have hw:Region.wanted o (yielded ops a.tmps)=true:=by simp [Region.wanted,hg]
 rw [if_pos hw];unfold Oper.wp;simp [execOp,hop,resolve,invoke,builtin,hd,hx,hr,Result.andThen];exact hK
end
section
variable {w:World} {B size g cap n k:Nat} {cs vs:List Value}
theorem pL {w:World} {g:Nat} {u:Value} (h:w.cell? ⟨g,0,none⟩=some u):∃t m,w.shape? g=some (t,m)/\m≠0:=by
 unfold World.cell? at h;cases hq:w.heap[g]? with
 |none=>simp [hq] at h
 |some o=>
  cases o with
  |cells c t mk=>
   simp [hq] at h;refine ⟨t,c.size,by simp [World.shape?,hq],fun h0=>?_⟩;rw [ak (by omega)] at h;cases h
  |_=>simp [hq] at h
theorem Blk.shape {t:TypeId} {c:Array Value} (h:Blk w g t c):w.shape? g=some (t,c.size):=by
 unfold Blk at h;simp [World.shape?,h]
theorem fL (b:Nat):∀(vs:List Value) (o:Nat) (w w':World),w.heap=w'.heap->(w.setCells b o vs).heap=(w'.setCells b o vs).heap
 | [],_,_,_,h=>h
 |v :: r,o,w,w',h=>by
  rw [World.setCells,World.setCells];exact fL b r (o+1) _ _ (by simp [World.setCell,h])
theorem dN.heap_eq {v:Value} {w w':World} (h:dN w B size v n cs) (e:w'.heap=w.heap):dN w' B size v n cs:=by
 have hc:∀a,w'.cell? a=w.cell? a:=fun a=>by unfold World.cell?;rw [e]
 have hz:∀a,w'.frozen? a=w.frozen? a:=fun a=>by unfold World.frozen?;rw [e]
 refine ⟨h.1,?_⟩;rcases h.2 with hn| ⟨g,cap,rfl,hb,hlt,hnc,hcm,hs,hf,hx⟩
 ·exact .inl hn
 ·exact .inr ⟨g,cap,rfl,hb,by rw [e];exact hlt,hnc,hcm,fun j hj=>by rw [hc];exact hs j hj,fun j hj=>by rw [hz];exact hf j hj,fun j u hu=>by rw [hc];exact hx j u hu⟩
theorem gx (b:Nat) (vs:List Value) (o:Nat) (w:World):(w.setCells b o vs).os=w.os:=World.os_setCells _ _ _ _
theorem gO (b:Nat) (vs:List Value) (o:Nat) (w:World):(w.setCells b o vs).output=w.output:=World.output_setCells _ _ _ _
theorem qu {cs vs:List Value} (hcl:cs.length=n*size) (hvl:vs.length=size) (hk:k<=n) (f:Nat->Option Value)
  (h1:∀j u,j < k*size->cs[j]? =some u->f j=some u) (h2:∀j u,vs[j]? =some u->f (k*size+j)=some u) (h3:∀j u,(cs.drop (k*size))[j]? =some u->f ((k+1)*size+j)=some u):
  ∀j u,(cs.take (k*size)++(vs++cs.drop (k*size)))[j]? =some u->f j=some u:=by
 intro j u hu;have hkl:k*size<=n*size:=bA _ hk;have htl:(cs.take (k*size)).length=k*size:=by rw [aX,hcl];omega
 have hk1:(k+1)*size=k*size+size:=Nat.succ_mul _ _;rcases aG j (k*size) with hj|hj
 ·rw [bt (by omega),bW hj] at hu
  exact h1 j u hj hu
 ·rw [bu (by omega),htl] at hu
  rcases aG (j - k*size) size with hj2|hj2
  ·rw [bt (by omega)] at hu
   have:=h2 _ u hu
   rwa [show k*size+(j - k*size)=j by omega] at this
  ·rw [bu (by omega),hvl] at hu
   have:=h3 _ u hu
   rwa [show (k+1)*size+(j - k*size - size)=j by omega] at this
theorem vo {cs vs:List Value} (hcl:cs.length=n*size) (hvl:vs.length=size) (hk:k<=n):(cs.take (k*size)++(vs++cs.drop (k*size))).length=(n+1)*size:=by
 have hkl:k*size<=n*size:=bA _ hk;have hk1:(n+1)*size=n*size+size:=Nat.succ_mul _ _;simp only [aO,aX,ax,hcl,hvl];omega
theorem z8 (hcl:cs.length=n*size) (hvl:vs.length=size) (hk:k<=n) (hroom:n+1<=cap) (hB:B<=g) (hlt:g < w.heap.size) (hcm:cap<=maxLen)
  (hs:∀j,j < cap*size->(w.cell? ⟨g,j,none⟩).isSome=true) (hf:∀j,j < cap*size->w.frozen? ⟨g,j,none⟩=false) (hx:∀j u,cs[j]? =some u->w.cell? ⟨g,j,none⟩=some u):
  dN ((w.setCells g ((k+1)*size) (cs.drop (k*size))).setCells g (k*size) vs) B size (.slice (some ⟨g,0,none⟩) (n+1) cap) (n+1) (cs.take (k*size)++(vs++cs.drop (k*size)))/\
  w.grownBy ((w.setCells g ((k+1)*size) (cs.drop (k*size))).setCells g (k*size) vs) (some g):=by
 have hkl:k*size<=n*size:=bA _ hk;have hk1:(k+1)*size=k*size+size:=Nat.succ_mul _ _;have oz:(n+1)*size=n*size+size:=Nat.succ_mul _ _;have hcs:(n+1)*size<=cap*size:=bA _ hroom;have Bb:(cs.drop (k*size)).length=n*size - k*size:=by rw [ax,hcl]
 have hs1:∀j,j < cap*size->((w.setCells g ((k+1)*size) (cs.drop (k*size))).cell? ⟨g,j,none⟩).isSome=true:=fun j hj=>World.isSome_setCells g _ _ w _ (hs j hj)
 refine ⟨⟨vo hcl hvl hk,.inr ⟨g,cap,rfl,hB,?_,hroom,hcm,fun j hj=>World.isSome_setCells g _ _ _ _ (hs1 j hj),fun j hj=>by rw [World.frozen?_setCells,World.frozen?_setCells];exact hf j hj,?_⟩⟩,?_⟩
 ·rw [eF,eF];exact hlt
 ·refine qu hcl hvl hk (fun j=>((w.setCells g ((k+1)*size) (cs.drop (k*size))).setCells g (k*size) vs).cell? ⟨g,j,none⟩) (fun j u hj hu=>?_) (fun j u hu=>?_) (fun j u hu=>?_)
  ·show World.cell? _ _=_
   rw [World.cell?_setCells_out _ _ _ _ _ (fun _ _=>.inl hj),World.cell?_setCells_out _ _ _ _ _ (fun _ _=>.inl (by show j < _;omega))];exact hx j u hu
  ·obtain ⟨hj,rfl⟩:=cV.1 hu
   exact World.cell?_setCells_in g vs (k*size) _ (fun i hi=>hs1 _ (by omega)) j hj
  ·obtain ⟨hj,rfl⟩:=cV.1 hu
   show World.cell? _ _=_;rw [World.cell?_setCells_out _ _ _ _ _ (fun _ _=>.inr (by show _<=(k+1)*size+j;omega))];exact World.cell?_setCells_in g (cs.drop (k*size)) ((k+1)*size) _ (fun i hi=>hs _ (by omega)) j hj
 ·exact ⟨by rw [World.os_setCells,World.os_setCells],by rw [ec,ec],by rw [World.output_setCells,World.output_setCells],by rw [eF,eF];exact aB _,fun i hi hne=>by
   rw [World.heap_setCells_other _ g _ vs (by rw [eF];exact hi) (fun e=>hne (by rw [e])),World.heap_setCells_other _ g _ _ hi (fun e=>hne (by rw [e]))]⟩
theorem zA {W:World} (hcl:cs.length=n*size) (hvl:vs.length=size) (hk:k<=n) (hroom:n+1<=cap) (hB:B<=g) (hlt:g < W.heap.size) (hcm:cap<=maxLen)
  (hs:∀j,j < cap*size->(W.cell? ⟨g,j,none⟩).isSome=true) (hf:∀j,j < cap*size->W.frozen? ⟨g,j,none⟩=false) (hx:∀j u,j < k*size->cs[j]? =some u->W.cell? ⟨g,j,none⟩=some u):
  dN ((W.setCells g (k*size) vs).setCells g ((k+1)*size) (cs.drop (k*size))) B size (.slice (some ⟨g,0,none⟩) (n+1) cap) (n+1) (cs.take (k*size)++(vs++cs.drop (k*size)))/\
  W.grownBy ((W.setCells g (k*size) vs).setCells g ((k+1)*size) (cs.drop (k*size))) (some g):=by
 have hkl:k*size<=n*size:=bA _ hk;have hk1:(k+1)*size=k*size+size:=Nat.succ_mul _ _;have oz:(n+1)*size=n*size+size:=Nat.succ_mul _ _;have hcs:(n+1)*size<=cap*size:=bA _ hroom;have Bb:(cs.drop (k*size)).length=n*size - k*size:=by rw [ax,hcl]
 have hs1:∀j,j < cap*size->((W.setCells g (k*size) vs).cell? ⟨g,j,none⟩).isSome=true:=fun j hj=>World.isSome_setCells g _ _ W _ (hs j hj)
 refine ⟨⟨vo hcl hvl hk,.inr ⟨g,cap,rfl,hB,?_,hroom,hcm,fun j hj=>World.isSome_setCells g _ _ _ _ (hs1 j hj),fun j hj=>by rw [World.frozen?_setCells,World.frozen?_setCells];exact hf j hj,?_⟩⟩,?_⟩
 ·rw [eF,eF];exact hlt
 ·refine qu hcl hvl hk (fun j=>((W.setCells g (k*size) vs).setCells g ((k+1)*size) (cs.drop (k*size))).cell? ⟨g,j,none⟩) (fun j u hj hu=>?_) (fun j u hu=>?_) (fun j u hu=>?_)
  ·show World.cell? _ _=_
   rw [World.cell?_setCells_out _ _ _ _ _ (fun _ _=>.inl (by show j < _;omega)),World.cell?_setCells_out _ _ _ _ _ (fun _ _=>.inl hj)];exact hx j u hj hu
  ·obtain ⟨hj,rfl⟩:=cV.1 hu
   show World.cell? _ _=_;rw [World.cell?_setCells_out _ _ _ _ _ (fun _ _=>.inl (by show k*size+j < _;omega))];exact World.cell?_setCells_in g vs (k*size) _ (fun i hi=>hs _ (by omega)) j hj
  ·obtain ⟨hj,rfl⟩:=cV.1 hu
   exact World.cell?_setCells_in g (cs.drop (k*size)) ((k+1)*size) _ (fun i hi=>hs1 _ (by omega)) j hj
 ·exact ⟨by rw [World.os_setCells,World.os_setCells],by rw [ec,ec],by rw [World.output_setCells,World.output_setCells],by rw [eF,eF];exact aB _,fun i hi hne=>by
   rw [World.heap_setCells_other _ g _ _ (by rw [eF];exact hi) (fun e=>hne (by rw [e])),World.heap_setCells_other _ g _ _ hi (fun e=>hne (by rw [e]))]⟩
end
end
section
open Go.RowKit
attribute [local go_sem] dO dL dQ dM
theorem Xc (a b:Addr) (la ca lb cb:Nat) (w:World) (hne:a.block≠b.block) (tA tB:TypeId) (kA kB:Nat) (hsa:w.shape? a.block=some (tA,kA)) (hsb:w.shape? b.block=some (tB,kB)) (hkB:kB≠0) (hfa:w.frozen? a=false) (hfe:w.frozen? { block:=a.block,off:=kA }=false):
  (callFunc 239 #[.slice (some a) la ca,.slice (some b) lb cb]).run prog w=.ok (.value (.bool false)) w:=by
 have hz:∀w,(Go.sizeOf 38).run prog w=.ok 7 w:=fun w=>by
  obtain ⟨i0,jd,hz0,hz1,hz2⟩:=info_parts pY;simp [sizeOf,typeInfo,jd,hz1]
 rw [run_callFunc_extern func239 (by kernel_rfl) (by kernel_rfl) (by kernel_rfl) (e:=Extern.SlicesOverlaps.overlaps #[33,33] #[4]) (by kernel_rfl),
  Lib.run_overlaps_apart w 33 4 38 underlying33 7 hz a b la ca lb cb hne tA tB kA kB hsa hsb hkB hfa hfe]
 rfl
def iN (B:Nat) (w:World) (v:Value) (n k:Nat) (cs vs:List Value) (e:Ending) (w':World):Prop:=
 ∃v',e=.returned v'/\dN w' B 7 v' (n+1) (cs.take (k*7)++(vs++cs.drop (k*7)))/\w.grownBy w' v.ownBlock/\(v'.ownBlock=v.ownBlock\/v'.ownBlock=some w.heap.size)
theorem AO (B:Nat) (v:Value) (n:Nat) (cs vs:List Value) (vb vc:Nat) (w:World) (hO:dN w B 7 v n cs) (hm:n<=1000000) (hvl:vs.length=7) (sn:∀u∈vs,u.oneCell'=true)
  (hvs:∀j u,vs[j]? =some u->w.cell? ⟨vb,0+j,none⟩=some u) (hB:B<=w.heap.size):
  Calls prog 163 #[v,.int .i64 n,.slice (some ⟨vb,0,none⟩) 1 vc] w (iN B w v n n cs vs):=by
 obtain ⟨i0,jd,hz0,hz1,hz2⟩:=info_parts pY;have hsrc:Src prog 7 33 (.slice (some ⟨vb,0,none⟩) 1 vc) 1 vs w:=Src.ofSlice w underlying33 ⟨vb,0,none⟩ 1 vc vs (by omega) (fun j u hj=>by rw [Addr.add_lit];exact hvs j u hj) sn;have hcl:=hO.len;have e1:cs.take (n*7)++(vs++cs.drop (n*7))=cs++vs:=by rw [az (by omega),List.drop_eq_nil_of_le (by omega),bD]
 unfold iN;rw [e1];have HO:=dH hO;have HS:=dH hsrc;have HI:=dH jd;have j9:=dH hz0;have gH:=dH hz1;have iH:=dH hz2;have HB:=dH hB;rcases hO.2 with ⟨rfl,rfl⟩| ⟨g,cap,rfl,hb,hlt,hnc,hcm,hs,hf,hx⟩
 ·clear hsrc jd hz0 hz1 hz2 hB hvs sn e1 hcl hO hvl
  go_enter func163,ntmps163;go_wp2_with (at_builtin;refine dZ _ rfl (.tmp 23) (.tmp 24) 33 33 rfl 38 i0 (.agg #[.int .i64 0,.int .i64 0,.bool false,.int .i64 0,.int .i64 0,.string ⟨#[]⟩,.string ⟨#[]⟩]) 7 underlying33 HI.o j9.o gH.o rfl (by decide) B _ 0 cs rfl HO.o (.slice (some ⟨vb,0,none⟩) 1 vc) rfl 1 vs HS.o (by unfold maxLen;omega) (by rw [iH.o];omega) HB.o ?_)
  intro v' w3 hown hgrow gE;have H1:=dH hown;have H2:=dH hgrow;have H3:=dH gE;clear hown hgrow gE;go_wp2_with fail;go_ret;exact ⟨_,rfl,H1.o,H2.o,H3.o⟩
 ·unfold maxLen at hcm
  clear hsrc jd hz0 hz1 hz2 hB hvs sn e1 hcl hO hvl hs hf hx;rcases aG n cap with hc|hc
  ·go_enter func163,ntmps163
   go_wp2_with (at_builtin;refine dZ _ rfl (.tmp 23) (.tmp 24) 33 33 rfl 38 i0 (.agg #[.int .i64 0,.int .i64 0,.bool false,.int .i64 0,.int .i64 0,.string ⟨#[]⟩,.string ⟨#[]⟩]) 7 underlying33 HI.o j9.o gH.o rfl (by decide) B _ n cs rfl HO.o (.slice (some ⟨vb,0,none⟩) 1 vc) rfl 1 vs HS.o (by unfold maxLen;omega) (by rw [iH.o];omega) HB.o ?_)
   intro v' w3 hown hgrow gE;have H1:=dH hown;have H2:=dH hgrow;have H3:=dH gE;clear hown hgrow gE;go_wp2_with fail;go_ret;exact ⟨_,rfl,H1.o,H2.o,H3.o⟩
  ·obtain rfl:cap=n:=by omega
   go_enter func163,ntmps163;go_wp2_with (at_builtin;refine dZ _ rfl (.tmp 23) (.tmp 24) 33 33 rfl 38 i0 (.agg #[.int .i64 0,.int .i64 0,.bool false,.int .i64 0,.int .i64 0,.string ⟨#[]⟩,.string ⟨#[]⟩]) 7 underlying33 HI.o j9.o gH.o rfl (by decide) B _ _ cs rfl HO.o (.slice (some ⟨vb,0,none⟩) 1 vc) rfl 1 vs HS.o (by unfold maxLen;omega) (by rw [iH.o];omega) HB.o ?_)
   intro v' w3 hown hgrow gE;have H1:=dH hown;have H2:=dH hgrow;have H3:=dH gE;clear hown hgrow gE;go_wp2_with fail;go_ret;exact ⟨_,rfl,H1.o,H2.o,H3.o⟩
theorem vt (B g cap n k:Nat) (cs vs:List Value) (vb vc:Nat) (w:World) (hO:dN w B 7 (.slice (some ⟨g,0,none⟩) n cap) n cs) (hm:n<=1000000) (hk:k < n) (hroom:n+1<=cap) (hvl:vs.length=7) (h1c:∀u∈cs,u.oneCell'=true) (sn:∀u∈vs,u.oneCell'=true)
  (hvs:∀j u,vs[j]? =some u->w.cell? ⟨vb,0+j,none⟩=some u) (SE:vb≠g) (tA:TypeId) (kA:Nat) (hsa:w.shape? vb=some (tA,kA)) (hfa:w.frozen? ⟨vb,0,none⟩=false) (hfe:w.frozen? ⟨vb,kA,none⟩=false):
  Calls prog 163 #[.slice (some ⟨g,0,none⟩) n cap,.int .i64 k,.slice (some ⟨vb,0,none⟩) 1 vc] w (iN B w (.slice (some ⟨g,0,none⟩) n cap) n k cs vs):=by
 obtain ⟨i0,jd,hz0,hz1,hz2⟩:=info_parts pY;have hcl:=hO.len;rcases hO.2 with ⟨h,_⟩| ⟨g',cap',he,hb,hlt,hnc,hcm,hs,hf,hx⟩
 ·cases h
 obtain ⟨rfl,rfl⟩:g=g'/\cap=cap':=by cases he;exact ⟨rfl,rfl⟩
 have aby:cap<=9223372036854775807:=by unfold maxLen at hcm;omega
 have hcs:(n+1)*7<=cap*7:=bA _ hroom;obtain ⟨u0,RQ⟩:=Option.isSome_iff_exists.1 (hs 0 (by omega));obtain ⟨tB,kB,hsb,hkB⟩:=pL RQ;have hsz:(prog.info? 38).map (·.size)=some 7:=by rw [jd];simp [hz1]
 have hov:∀lb cb,(callFunc 239 #[.slice (some ⟨vb,0,none⟩) 1 vc,.slice (some ⟨g,(k+1)*7,none⟩) lb cb]).run prog w=.ok (.value (.bool false)) w:=fun lb cb=>Xc ⟨vb,0,none⟩ ⟨g,(k+1)*7,none⟩ 1 vc lb cb w SE tA tB kA kB hsa hsb hkB hfa hfe
 have Bb:(cs.drop (k*7)).length=(n - k)*7:=by rw [ax,hcl];omega
 have OB:∀ty dc sc,(Builtin.copy_ #[33,33] ty #[.slice (some ⟨g,(k+1)*7,none⟩) (n+1 - (k+1)) dc,.slice (some ⟨g,k*7,none⟩) (n+1 - k) sc]).run prog w.drew=.ok (goInt (Nat.min (n+1 - k) (n+1 - (k+1)):Nat)) (w.drew.setCells g ((k+1)*7) (cs.drop (k*7))):=fun ty dc sc=>
  fP w.drew _ _ ty 38 7 g ((k+1)*7) (n+1 - (k+1)) dc ⟨g,k*7,none⟩ (n+1 - k) sc (cs.drop (k*7)) underlying33 hsz (by rw [Bb];simp only [Nat.min_def];split <;> omega)
   (fun j v hj=>by rw [Addr.add_lit];exact hx _ v (by rwa [List.getElem?_drop] at hj))
   (fun j hj=>hs _ (by omega)) (fun j hj=>hf _ (by omega)) (fun v hv=>h1c v (cL hv))
 obtain ⟨W1,mQ⟩:=dB (w.drew.setCells g ((k+1)*7) (cs.drop (k*7)));have OC:∀j,j < cap*7->(W1.cell? ⟨g,j,none⟩).isSome=true:=fun j hj=>by
  rw [mQ];exact World.isSome_setCells g _ _ _ _ (hs j hj)
 have G7:∀(W:World),(∀x,W.cell? x=W1.cell? x)->(∀x,W.frozen? x=W1.frozen? x)->∀ty dc,(Builtin.copy_ #[33,33] ty #[.slice (some ⟨g,k*7,none⟩) (n+1 - k) dc,.slice (some ⟨vb,0,none⟩) 1 vc]).run prog W=.ok (goInt (Nat.min 1 (n+1 - k):Nat)) (W.setCells g (k*7) vs):=fun W EA Oi ty dc=>
  fP W _ _ ty 38 7 g (k*7) (n+1 - k) dc ⟨vb,0,none⟩ 1 vc vs underlying33 hsz (by rw [hvl];simp only [Nat.min_def];split <;> omega)
   (fun j v hj=>by
    rw [Addr.add_lit,EA,mQ,World.cell?_setCells_out g _ _ _ _ (fun h _=>absurd h SE)];exact hvs j v hj)
   (fun j hj=>by rw [EA];exact OC _ (by omega)) (fun j hj=>by rw [Oi,mQ,World.frozen?_setCells];exact hf _ (by omega)) sn
 rw [<-mQ] at OB;have eC:=z8 (w:=w.drew) (B:=B) hcl hvl (ay hk) hroom hb hlt hcm hs hf hx;have HF:=dH eC;have hw1:IntKind.i64.wrap ((k:Int)+1)=(k:Int)+1:=by rw [IntKind.wrap_i64];omega
 have dR:(0:Int)<=(k:Int)+1:=by omega
 have hin:k<=n:=by omega
 have htn:((k:Int)+1).toNat=k+1:=by omega
 have dS:¬ (cap=k+1):=by omega
 have di:(k:Int)<=(n:Int)+1:=by omega
 have hb4:¬ (cap=k):=by omega
 have V7:¬ ((k:Int)=(n:Int)):=by omega
 clear eC hx hs hf OC hvs h1c sn Bb hcl RQ hsb hkB jd hz0 hz1 hz2 hO he hcs hsa hfa hfe hsz hvl;clear hcm;unfold iN;go_enter func163,ntmps163;go_wp2_with (simp only [hov])
 go_region_law (refine iw rfl (.tmp 73) (.tmp 76) 33 33 rfl (.slice (some ⟨g,(k+1)*7,none⟩) (n+1 - (k+1)) (cap - (k+1))) (.slice (some ⟨g,k*7,none⟩) (n+1 - k) (cap - k)) (by simp [Act.eval,Act.put]) (by simp [Act.eval,Act.put]) (OB _ _ _) ?_)
 go_wp2_with (at_builtin;refine wpList_copy_runC _ rfl _ _ 33 33 rfl _ _ rfl rfl (G7 _ (fun _=>rfl) (fun _=>rfl) _ _) ?_)
 go_ret;exact ⟨_,rfl,HF.o.1,⟨HF.o.2.os,HF.o.2.tape,HF.o.2.output,HF.o.2.size,HF.o.2.block⟩,.inl rfl⟩
theorem xd (B g cap n k:Nat) (cs vs:List Value) (vb vc:Nat) (w:World) (hO:dN w B 7 (.slice (some ⟨g,0,none⟩) n cap) n cs) (hm:n<=1000000) (hk:k < n) (hroom:cap < n+1) (hvl:vs.length=7) (h1c:∀u∈cs,u.oneCell'=true) (sn:∀u∈vs,u.oneCell'=true)
  (hvs:∀j u,vs[j]? =some u->w.cell? ⟨vb,0+j,none⟩=some u) (hB:B<=w.heap.size):
  Calls prog 163 #[.slice (some ⟨g,0,none⟩) n cap,.int .i64 k,.slice (some ⟨vb,0,none⟩) 1 vc] w (iN B w (.slice (some ⟨g,0,none⟩) n cap) n k cs vs):=by
 obtain ⟨i0,jd,hz0,hz1,hz2⟩:=info_parts pY;have hcl:=hO.len;rcases hO.2 with ⟨h,_⟩| ⟨g',cap',he,hb,hlt,hnc,hcm,hs,hf,hx⟩
 ·cases h
 obtain ⟨rfl,rfl⟩:g=g'/\cap=cap':=by cases he;exact ⟨rfl,rfl⟩
 obtain rfl:n=cap:=by omega
 have hsz:(prog.info? 38).map (·.size)=some 7:=by rw [jd];simp [hz1]
 have hvw:vb < w.heap.size:=dn (hvs 0 _ (bf (by omega)));have hkk:(n:Int)+1 - (k:Int)=((n+1 - k:Nat):Int):=by omega
 have hik:k+(n+1 - k)=n+1:=by omega
 have hkl:k*7<=n*7:=bA _ (by omega);have htl:(cs.take (k*7)).length=k*7:=by rw [aX,hcl];omega
 have hold:(Builtin.firstCells i0.size k (.slice (some ⟨g,0,none⟩) k n)).run prog w.drew=.ok (cs.take (k*7)).toArray w.drew:=by
  rw [hz1];exact run_firstCells_some w.drew 7 k ⟨g,0,none⟩ k n (cs.take (k*7)) htl (fun j v hj=>by
   rw [Addr.add_lit];rw [List.getElem?_take] at hj;split at hj
   ·rw [aY];exact hx j v hj
   ·cases hj)
 have RU:∀ty,(Builtin.append_ #[33,3] ty #[.slice (some ⟨g,0,none⟩) k n,.int .i64 ((n:Int)+1 - (k:Int))]).run prog w=
   .ok (.slice (some ⟨w.heap.size,0,none⟩) (n+1) (grownCap w (n+1) n 38)) (w.drew.alloc (.cells ((cs.take (k*7)).toArray++Builtin.zeroCells (.agg #[.int .i64 0,.int .i64 0,.bool false,.int .i64 0,.int .i64 0,.string ⟨#[]⟩,.string ⟨#[]⟩]:Value).cells (n+1 - k)++Builtin.zeroCells (.agg #[.int .i64 0,.int .i64 0,.bool false,.int .i64 0,.int .i64 0,.string ⟨#[]⟩,.string ⟨#[]⟩]:Value).cells (grownCap w (n+1) n 38 - (n+1))) 38)):=fun ty=>by
  have h:=Lib.run_append_grow_zeros w 33 3 ty 38 i0 _ .i64 .i64 underlying33 underlying3 jd hz0 (some ⟨g,0,none⟩) k n (cs.take (k*7)) hold (n+1 - k) (by omega) (by omega) (by omega) (by omega) (by rw [hz2];omega) (by rw [hz2,hik];exact growslice_fits (by omega) (by omega));rw [hik] at h;rw [hkk];exact h
 obtain ⟨G,hG⟩:=dB (grownCap w (n+1) n 38);obtain ⟨lg,BR⟩:∃lg:Array Value,lg=(cs.take (k*7)).toArray++Builtin.zeroCells (.agg #[.int .i64 0,.int .i64 0,.bool false,.int .i64 0,.int .i64 0,.string ⟨#[]⟩,.string ⟨#[]⟩]:Value).cells (n+1 - k)++Builtin.zeroCells (.agg #[.int .i64 0,.int .i64 0,.bool false,.int .i64 0,.int .i64 0,.string ⟨#[]⟩,.string ⟨#[]⟩]:Value).cells (G - (n+1)):=⟨_,rfl⟩;rw [<-hG] at RU;rw [<-BR] at RU;have Z8:n+1<=G:=by rw [hG];exact grownCap_ge w _ _ _
 have VA:G<=maxLen:=by rw [hG];exact grownCap_le_maxLen w (n+1) n 38 (by unfold maxLen;omega)
 have abz:G<=9223372036854775807:=by unfold maxLen at VA;omega
 have hzl:(.agg #[.int .i64 0,.int .i64 0,.bool false,.int .i64 0,.int .i64 0,.string ⟨#[]⟩,.string ⟨#[]⟩]:Value).cells.size=7:=rfl;have RV:lg.size=G*7:=by
  rw [BR];simp only [Array.size_append,bG,size_zeroCells,hzl,htl];omega
 have Z9:∀j u,j < k*7->cs[j]? =some u->lg[j]? =some u:=fun j u hj hu=>by
  rw [BR,Array.append_assoc,Array.getElem?_append_left (by rw [bG,htl];exact hj)];simpa [bW hj] using hu
 obtain ⟨W1,mQ⟩:=dB (w.drew.alloc (.cells lg 38));rw [<-mQ] at RU;have Sr:∀j,W1.cell? ⟨w.heap.size,j,none⟩=lg[j]?:=fun j=>by rw [mQ];exact World.cell?_alloc_at (w:=w.drew) lg _ w.heap.size j rfl
 have hN:∀j,j < G*7->(W1.cell? ⟨w.heap.size,j,none⟩).isSome=true:=fun j hj=>by
  rw [Sr,cK (by omega)];rfl
 have RW:∀j,W1.frozen? ⟨w.heap.size,j,none⟩=false:=fun j=>by rw [mQ];exact World.frozen?_alloc_at (w:=w.drew) lg _ w.heap.size j rfl
 have ZA:∀j v,w.cell? ⟨g,j,none⟩=some v->W1.cell? ⟨g,j,none⟩=some v:=fun j v h=>by rw [mQ,World.cell?_alloc_past (w:=w.drew) _ g j hlt];exact h
 have ZB:∀j v,w.cell? ⟨vb,j,none⟩=some v->W1.cell? ⟨vb,j,none⟩=some v:=fun j v h=>by rw [mQ,World.cell?_alloc_past (w:=w.drew) _ vb j hvw];exact h
 have hk1:(k+1)*7=k*7+7:=Nat.succ_mul _ _;have hcs:(n+1)*7<=G*7:=bA _ Z8;have VB:∀(W:World),(∀x,W.cell? x=W1.cell? x)->(∀x,W.frozen? x=W1.frozen? x)->∀ty dc,(Builtin.copy_ #[33,33] ty #[.slice (some ⟨w.heap.size,k*7,none⟩) (n+1 - k) dc,.slice (some ⟨vb,0,none⟩) 1 vc]).run prog W=.ok (goInt (Nat.min 1 (n+1 - k):Nat)) (W.setCells w.heap.size (k*7) vs):=fun W EA Oi ty dc=>
  fP W _ _ ty 38 7 w.heap.size (k*7) (n+1 - k) dc ⟨vb,0,none⟩ 1 vc vs underlying33 hsz (by rw [hvl];simp only [Nat.min_def];split <;> omega)
   (fun j v hj=>by rw [Addr.add_lit,EA];exact ZB _ v (hvs j v hj))
   (fun j hj=>by rw [EA];exact hN _ (by omega)) (fun j hj=>by rw [Oi];exact RW _) sn
 have hGi:¬ (G=k):=by omega
 have abA:¬ (G=k+1):=by omega
 have pT:¬ (n=k):=by omega
 have RX:g≠w.heap.size:=by omega
 have Bb:(cs.drop (k*7)).length=(n - k)*7:=by rw [ax,hcl];omega
 have OD:∀(W:World),(∀x,W.cell? x=(W1.setCells w.heap.size (k*7) vs).cell? x)->(∀x,W.frozen? x=(W1.setCells w.heap.size (k*7) vs).frozen? x)->∀ty dc sc,(Builtin.copy_ #[33,33] ty #[.slice (some ⟨w.heap.size,(k+1)*7,none⟩) (n+1 - (k+1)) dc,.slice (some ⟨g,k*7,none⟩) (n - k) sc]).run prog W=.ok (goInt (Nat.min (n - k) (n+1 - (k+1)):Nat)) (W.setCells w.heap.size ((k+1)*7) (cs.drop (k*7))):=fun W EA Oi ty dc sc=>
  fP W _ _ ty 38 7 w.heap.size ((k+1)*7) (n+1 - (k+1)) dc ⟨g,k*7,none⟩ (n - k) sc (cs.drop (k*7)) underlying33 hsz (by rw [Bb];simp only [Nat.min_def];split <;> omega)
   (fun j v hj=>by
    rw [Addr.add_lit,EA,World.cell?_setCells_out _ _ _ _ _ (fun h _=>absurd h RX)];exact ZA _ v (hx _ v (by rwa [List.getElem?_drop] at hj)))
   (fun j hj=>by rw [EA];exact World.isSome_setCells _ _ _ _ _ (hN _ (by omega)))
   (fun j hj=>by rw [Oi,World.frozen?_setCells];exact RW _) (fun v hv=>h1c v (cL hv))
 have eC:=zA (W:=W1) (B:=B) (g:=w.heap.size) hcl hvl (ay hk) Z8 hB (by rw [mQ];exact (by simp:w.heap.size < (w.drew.alloc (.cells lg 38)).heap.size)) VA hN (fun j _=>RW j) (fun j u hj hu=>by rw [Sr];exact Z9 j u hj hu);have hgb:w.grownBy ((W1.setCells w.heap.size (k*7) vs).setCells w.heap.size ((k+1)*7) (cs.drop (k*7))) (some g):=by
  have h1:Below w.heap.size w W1:=by rw [mQ];exact ((aC w.heap.size w).drew).alloc (aB _) _
  exact eo (h1.trans ⟨eC.2.os,eC.2.tape,eC.2.output,eC.2.size,fun i hi=>eC.2.block i (aN hi h1.size) (fun e=>by cases e;omega)⟩) _
 have HF:dG (dN (((w.alloc (.cells lg 38)).drew.setCells w.heap.size (k*7) vs).drew.setCells w.heap.size ((k+1)*7) (cs.drop (k*7))) B 7 (.slice (some ⟨w.heap.size,0,none⟩) (n+1) G) (n+1) (cs.take (k*7)++(vs++cs.drop (k*7)))/\
   w.grownBy (((w.alloc (.cells lg 38)).drew.setCells w.heap.size (k*7) vs).drew.setCells w.heap.size ((k+1)*7) (cs.drop (k*7))) (some g)):=by
  have he:(((w.alloc (.cells lg 38)).drew.setCells w.heap.size (k*7) vs).drew.setCells w.heap.size ((k+1)*7) (cs.drop (k*7))).heap=((W1.setCells w.heap.size (k*7) vs).setCells w.heap.size ((k+1)*7) (cs.drop (k*7))).heap:=
   fL _ _ _ _ _ (fL _ _ _ (w.alloc (.cells lg 38)).drew _ (by rw [mQ];rfl))
  refine show _/\_ from ⟨eC.1.heap_eq he,⟨?_,?_,?_,by rw [he];exact hgb.size,fun i hi hne=>by rw [he];exact hgb.block i hi hne⟩⟩
  ·rw [gx];exact gx _ _ _ _
  ·rw [ec];exact ec _ _ _ _
  ·rw [gO];exact gO _ _ _ _
 subst mQ;have hE1:∀x,((w.alloc (.cells lg 38)).drew).cell? x=(w.drew.alloc (.cells lg 38)).cell? x:=fun x=>rfl
 have hE2:∀x,((w.alloc (.cells lg 38)).drew).frozen? x=(w.drew.alloc (.cells lg 38)).frozen? x:=fun x=>rfl
 have hF1:∀x,(((w.alloc (.cells lg 38)).drew.setCells w.heap.size (k*7) vs).drew).cell? x=((w.drew.alloc (.cells lg 38)).setCells w.heap.size (k*7) vs).cell? x:=fun x=>rfl
 have hF2:∀x,(((w.alloc (.cells lg 38)).drew.setCells w.heap.size (k*7) vs).drew).frozen? x=((w.drew.alloc (.cells lg 38)).setCells w.heap.size (k*7) vs).frozen? x:=fun x=>rfl
 have hw1:IntKind.i64.wrap ((k:Int)+1)=(k:Int)+1:=by rw [IntKind.wrap_i64];omega
 have dR:(0:Int)<=(k:Int)+1:=by omega
 have hin:k<=n:=by omega
 have htn:((k:Int)+1).toNat=k+1:=by omega
 have di:(k:Int)<=(n:Int):=by omega
 have V7:¬ ((k:Int)=(n:Int)):=by omega
 clear hkk hik hold BR hG RV Z9 Sr hN RW ZA ZB hx hs hf eC hgb Bb hcs hk1 htl hkl hvs h1c sn hO he jd hz0 hz1 hz2 hsz hcl hvl VA hcm hzl;unfold iN;go_enter func163,ntmps163;go_wp2_with (first
  |(at_builtin;refine Lib.wpList_append_run _ rfl _ _ _ _ rfl _ _ rfl rfl _ _ (RU _) ?_)
  |(at_builtin;refine wpList_copy_runC _ rfl _ _ 33 33 rfl _ _ rfl rfl (VB _ hE1 hE2 _ _) ?_)
  |(at_builtin;refine wpList_copy_runC _ rfl _ _ 33 33 rfl _ _ rfl rfl (OD _ (fun _=>rfl) (fun _=>rfl) _ _ _) ?_))
 go_region_law (refine iw rfl _ _ 33 33 rfl (.slice (some ⟨w.heap.size,(k+1)*7,none⟩) (n+1 - (k+1)) (G - (k+1))) (.slice (some ⟨g,k*7,none⟩) (n - k) (n - k)) (by simp [Act.eval,Act.put]) (by simp [Act.eval,Act.put]) (OD _ hF1 hF2 3 (G - (k+1)) (n - k)) ?_)
 go_wp2;go_ret;exact ⟨_,rfl,HF.o.1,⟨HF.o.2.os,HF.o.2.tape,HF.o.2.output,HF.o.2.size,HF.o.2.block⟩,.inr rfl⟩
theorem jx (B:Nat) (v:Value) (n k:Nat) (cs vs:List Value) (vb vc:Nat) (w:World) (hO:dN w B 7 v n cs) (hm:n<=1000000) (hk:k<=n) (hvl:vs.length=7) (h1c:∀u∈cs,u.oneCell'=true) (sn:∀u∈vs,u.oneCell'=true)
  (hV:Blk w vb 38 vs.toArray) (SE:v.ownBlock≠some vb) (hB:B<=w.heap.size):
  Calls prog 163 #[v,.int .i64 k,.slice (some ⟨vb,0,none⟩) 1 vc] w (iN B w v n k cs vs):=by
 have hvs:∀j u,vs[j]? =some u->w.cell? ⟨vb,0+j,none⟩=some u:=fun j u hu=>by rw [aY,hV.cell];simpa using hu
 rcases aG k n with hlt|hge
 ·have RY:=hO
  rcases hO.2 with ⟨rfl,rfl⟩| ⟨g,cap,rfl,hb,hlt2,hnc,hcm,hs,hf,hx⟩
  ·omega
  have hne:vb≠g:=fun e=>SE (by rw [e];rfl)
  rcases aG n cap with hc|hc
  ·exact vt B g cap n k cs vs vb vc w RY hm hlt hc hvl h1c sn hvs hne _ _ hV.shape (hV.frozen 0) (hV.frozen _)
  ·exact xd B g cap n k cs vs vb vc w RY hm hlt (by omega) hvl h1c sn hvs hB
 ·obtain rfl:k=n:=by omega
  exact AO B v k cs vs vb vc w hO hm hvl sn hvs hB
theorem MB (xs:List Nd) (k:Nat):jB (xs.take k)=(jB xs).take (k*7):=by
 rcases aG k xs.length with h|h
 ·have e:jB xs=jB (xs.take k)++jB (xs.drop k):=by rw [<-kS,cO]
  rw [e,List.take_left' (by rw [iJ,aX];congr 1;omega)]
 ·rw [az h,az (by rw [iJ];omega)]
theorem MC (xs:List Nd) (k:Nat):jB (xs.drop k)=(jB xs).drop (k*7):=by
 rcases aG k xs.length with h|h
 ·have e:jB xs=jB (xs.take k)++jB (xs.drop k):=by rw [<-kS,cO]
  rw [e,List.drop_left' (by rw [iJ,aX];congr 1;omega)]
 ·rw [List.drop_eq_nil_of_le h,List.drop_eq_nil_of_le (by rw [iJ];omega)];rfl
theorem F7 (xs:List Nd) (y:Nd) (k:Nat):jB (xs.take k++y :: xs.drop k)=(jB xs).take (k*7)++(nc y++(jB xs).drop (k*7)):=by
 rw [kS,<-MB];congr 1;rw [<-MC];simp [jB]
theorem jy {w:World} {B n k:Nat} {v:Value} {xs:List Nd} {y:Nd} (hn:xs.length=n) (hk:k<=n) (h:dN w B 7 v (n+1) ((jB xs).take (k*7)++(nc y++(jB xs).drop (k*7)))):Own w B v (xs.take k++y :: xs.drop k):=by
 unfold Own;rw [F7];have:(xs.take k++y :: xs.drop k).length=n+1:=by simp;omega
 rw [this];exact h
theorem AP {xs:List Nd} {y:Nd} (h:Short xs) (hy:y.nm.length<=9223372036854775807/\y.mf.length<=9223372036854775807) (k:Nat):Short (xs.take k++y :: xs.drop k):=by
 intro x hx;rcases aj.1 hx with hx|hx
 ·exact h x (cW hx)
 ·rcases aR.1 hx with rfl|hx
  ·exact hy
  ·exact h x (cL hx)
structure iy (B:Nat) (w w':World) (S:Nat) (v:Value) (xs:List Nd):Prop where
 own0:Own w' S v xs
 below:Below B w w'
 le:B<=w'.heap.size
 leS:B<=S
theorem iy.own {B S:Nat} {w w':World} {v:Value} {xs:List Nd} (h:iy B w w' S v xs):Own w' B v xs:=h.own0.mono h.leS
theorem iy.ne_new {B S:Nat} {w w':World} {v:Value} {xs:List Nd} (h:iy B w w' S v xs):v.ownBlock≠some w'.heap.size:=fun e=>by
 have:=(h.own0.ge _ e).2;omega
theorem iy.ne_at {B S:Nat} {w w':World} {v:Value} {xs:List Nd} (h:iy B w w' S v xs) {q:Nat} (hq:q < S):v.ownBlock≠some q:=fun e=>by
 have:=(h.own0.ge _ e).1;omega
theorem iy.fin {B S:Nat} {w w' w4:World} {v:Value} {xs:List Nd} (h:iy B w w' S v xs) (hg:w'.grownBy w4 v.ownBlock):Below B w w4:=lU h.below h.leS h.le h.own0 hg
theorem iy.fin_alloc {B S:Nat} {w w' w4:World} {v:Value} {xs:List Nd} {o:Obj} (h:iy B w w' S v xs) (hg:(w'.alloc o).grownBy w4 v.ownBlock):Below B w w4:=
 lU (h.below.alloc h.le o) h.leS (aK h.le (by simp)) (h.own0.alloc o) hg
theorem zB (y:Nd) (A:Option Addr) (n c:Nat) (xs:List Nd) (w:World) (hx:lq w A n c xs) (hm:n<=100000):
  Calls prog 109 #[.slice A n c,nv y] w fun e w'=>∃v,e=.returned v/\Own w' w.heap.size v (fu xs y)/\Below w.heap.size w w':=by
 have hn:=hx.len;have qJ:=hx.max;have hle:=hx.le;have dR:=dD w (.cells (nc y).toArray 38);have hB:=Blk.new w 38 (nc y).toArray;have hx1:=hx.below dR;obtain ⟨w1,hw1⟩:=dB (w.alloc (.cells (nc y).toArray 38));rw [<-hw1] at hB dR hx1;have HI:=dH (Eb w.heap.size y A n c xs w1 hx1 hB);have HW:=dH (show w1=w.alloc (.cells #[.int .i64 y.id.1,.int .i64 y.id.2,.bool y.dir,.int .i64 y.par.1,.int .i64 y.par.2,.string (bs y.nm),.string (bs y.mf)] 38) from hw1);have HX:=dH hx1;have HB:=dH dR;have yC:=dH hB;obtain ⟨B,Rz⟩:=dB w.heap.size;rw [<-Rz] at HI HB yC;have EJ:=dH Rz;have hsz:B<=w1.heap.size:=by rw [Rz];exact dR.size
 have O2:=dH hsz;clear hw1 hx1 dR hB hx hsz;rw [<-Rz];clear Rz;unfold nv;unfold fu;rcases gq (fun z=>dX y.id z.id) xs with ⟨k,hk,jQ,hp⟩| ⟨jQ,hall⟩
 all_goals (have gE:=Ib xs y.id;rw [jQ] at HI gE)
 ·have RR:decide ((k:Int) < 0)=false:=decide_eq_false (by omega)
  have hke:qR xs y.id=k:=by rw [if_neg (by omega)] at gE;omega
  rw [hke];have hkn:k<=n:=by omega
  clear gE hke jQ hp hk;go_enter func109,ntmps109;go_wp2_with fail;rw [<-HW.o,<-EJ.o];refine HI.o.mono ?_;rintro e w2 ⟨rfl,dS⟩;have eG:=dH (HB.o.trans (dS.mono O2.o));have HQ:=dH (Blk.below yC.o dS (Blk.lt yC.o));have tV:=dH (HX.o.below dS);have OE:=aK O2.o dS.size;have qN:=dH OE;clear dS OE;go_wp2_with fail;have HL:=dH (show xs.length<=1000000 by omega);have HN:=dH (show n<=1000000 by omega);have Kk:=dH (show k<=xs.length by omega);clear hm hn qJ hle hkn;go_region_held3 (fun w'=>w'.cell? ⟨B,0,none⟩=some (.int .i64 y.id.1)/\w'.cell? ⟨B,1,none⟩=some (.int .i64 y.id.2)/\w'.cell? ⟨B,2,none⟩=some (.bool y.dir)/\w'.cell? ⟨B,3,none⟩=some (.int .i64 y.par.1)/\w'.cell? ⟨B,4,none⟩=some (.int .i64 y.par.2)/\w'.cell? ⟨B,5,none⟩=some (.string (bs y.nm))/\w'.cell? ⟨B,6,none⟩=some (.string (bs y.mf)))
   (with_reducible first|exact eU OF.o|exact eU mW.o|exact eU (Blk.alloc mW.o _)|exact eU (Blk.drew HQ.o)|exact eU (Blk.drew (Blk.alloc HQ.o _))|exact eU (Blk.alloc (Blk.drew HQ.o) _)|exact eU (Blk.alloc HQ.o _)|exact eU HQ.o)
   (first
    |(go_at_call 111;refine (iR A n c xs _ (tV.o.below (aC _ _).drew) HN.o).mono ?_;rintro e w3 ⟨v,rfl,Ba,di⟩;obtain ⟨A3,c3,rfl⟩:=dN.isSlice Ba;have mW:=dH (Blk.below (Blk.drew HQ.o) di (Blk.lt HQ.o));have HC:=dH (iy.mk (B:=B) (w:=w) Ba (eG.o.drew.trans (di.mono qN.o)) (aK qN.o di.size) qN.o);have VC:=dH (Blk.lt HQ.o);clear Ba di)
    |(go_at_call 111;refine (iR A n c xs _ (tV.o.below ((aC _ _).alloc (aB _) _).drew) HN.o).mono ?_;rintro e w3 ⟨v,rfl,Ba,di⟩;obtain ⟨A3,c3,rfl⟩:=dN.isSlice Ba;have mW:=dH (Blk.below (Blk.drew (Blk.alloc HQ.o _)) di (aN (Blk.lt HQ.o) (by simp)));have HC:=dH (iy.mk (B:=B) (w:=w) Ba ((eG.o.alloc qN.o _).drew.trans (di.mono (aK qN.o (by simp)))) (aK qN.o (aK (by simp) di.size)) (aK qN.o (by simp)));have HV:=dH (Blk.below (Blk.drew (Blk.new w2 38 (nc y).toArray)) di (by simp));have VC:=dH (aN (Blk.lt HQ.o) (by simp:w2.heap.size<=(w2.alloc (.cells (nc y).toArray 38)).drew.heap.size));clear Ba di)
    |(go_at_call 163;refine (jx B _ xs.length k (jB xs) (nc y) _ 1 _ HC.o.own HL.o Kk.o rfl (qZ xs) (ng y) HV.o (HC.o.ne_at (by simp)) HC.o.le).mono ?_;rintro e w4 ⟨v4,rfl,ue,hg4,_⟩;have OF:=dH (Blk.grown mW.o hg4 (fun e=>HC.o.ne_at VC.o e.symm));have HF:=dH (And.intro (jy rfl Kk.o ue) (HC.o.fin hg4));clear ue hg4)
    |(go_at_call 163;refine (jx B _ xs.length k (jB xs) (nc y) _ 1 _ (HC.o.own.alloc _) HL.o Kk.o rfl (qZ xs) (ng y) (Blk.new _ 38 (nc y).toArray) HC.o.ne_new (aK HC.o.le (by simp))).mono ?_;rintro e w4 ⟨v4,rfl,ue,hg4,_⟩;have OF:=dH (Blk.grown (Blk.alloc mW.o _) hg4 (fun e=>HC.o.ne_at VC.o e.symm));have HF:=dH (And.intro (jy rfl Kk.o ue) (HC.o.fin_alloc hg4));clear ue hg4))
  all_goals (go_wp2_with fail;go_ret;exact ⟨_,rfl,HF.o⟩)
 ·have RR:decide ((-1:Int) < 0)=true:=by decide
  have hke:qR xs y.id=n:=by rw [if_pos (by omega)] at gE;omega
  rw [hke];clear gE hke jQ hall;go_enter func109,ntmps109;go_wp2_with fail;rw [<-HW.o,<-EJ.o];refine HI.o.mono ?_;rintro e w2 ⟨rfl,dS⟩;have eG:=dH (HB.o.trans (dS.mono O2.o));have HQ:=dH (Blk.below yC.o dS (Blk.lt yC.o));have tV:=dH (HX.o.below dS);have OE:=aK O2.o dS.size;have qN:=dH OE;clear dS OE;go_wp2_with fail;have HL:=dH (show xs.length<=1000000 by omega);have HN:=dH (show n<=1000000 by omega);have Kk:=dH (show n<=xs.length by omega);clear hm hn qJ hle;go_region_held3 (fun w'=>w'.cell? ⟨B,0,none⟩=some (.int .i64 y.id.1)/\w'.cell? ⟨B,1,none⟩=some (.int .i64 y.id.2)/\w'.cell? ⟨B,2,none⟩=some (.bool y.dir)/\w'.cell? ⟨B,3,none⟩=some (.int .i64 y.par.1)/\w'.cell? ⟨B,4,none⟩=some (.int .i64 y.par.2)/\w'.cell? ⟨B,5,none⟩=some (.string (bs y.nm))/\w'.cell? ⟨B,6,none⟩=some (.string (bs y.mf)))
   (with_reducible first|exact eU OF.o|exact eU mW.o|exact eU (Blk.alloc mW.o _)|exact eU (Blk.drew HQ.o)|exact eU (Blk.drew (Blk.alloc HQ.o _))|exact eU (Blk.alloc (Blk.drew HQ.o) _)|exact eU (Blk.alloc HQ.o _)|exact eU HQ.o)
   (first
    |(go_at_call 111;refine (iR A n c xs _ (tV.o.below (aC _ _).drew) HN.o).mono ?_;rintro e w3 ⟨v,rfl,Ba,di⟩;obtain ⟨A3,c3,rfl⟩:=dN.isSlice Ba;have mW:=dH (Blk.below (Blk.drew HQ.o) di (Blk.lt HQ.o));have HC:=dH (iy.mk (B:=B) (w:=w) Ba (eG.o.drew.trans (di.mono qN.o)) (aK qN.o di.size) qN.o);have VC:=dH (Blk.lt HQ.o);clear Ba di)
    |(go_at_call 111;refine (iR A n c xs _ (tV.o.below ((aC _ _).alloc (aB _) _).drew) HN.o).mono ?_;rintro e w3 ⟨v,rfl,Ba,di⟩;obtain ⟨A3,c3,rfl⟩:=dN.isSlice Ba;have mW:=dH (Blk.below (Blk.drew (Blk.alloc HQ.o _)) di (aN (Blk.lt HQ.o) (by simp)));have HC:=dH (iy.mk (B:=B) (w:=w) Ba ((eG.o.alloc qN.o _).drew.trans (di.mono (aK qN.o (by simp)))) (aK qN.o (aK (by simp) di.size)) (aK qN.o (by simp)));have HV:=dH (Blk.below (Blk.drew (Blk.new w2 38 (nc y).toArray)) di (by simp));have VC:=dH (aN (Blk.lt HQ.o) (by simp:w2.heap.size<=(w2.alloc (.cells (nc y).toArray 38)).drew.heap.size));clear Ba di)
    |(go_at_call 163;refine (jx B _ xs.length n (jB xs) (nc y) _ 1 _ HC.o.own HL.o Kk.o rfl (qZ xs) (ng y) HV.o (HC.o.ne_at (by simp)) HC.o.le).mono ?_;rintro e w4 ⟨v4,rfl,ue,hg4,_⟩;have OF:=dH (Blk.grown mW.o hg4 (fun e=>HC.o.ne_at VC.o e.symm));have HF:=dH (And.intro (jy rfl Kk.o ue) (HC.o.fin hg4));clear ue hg4)
    |(go_at_call 163;refine (jx B _ xs.length n (jB xs) (nc y) _ 1 _ (HC.o.own.alloc _) HL.o Kk.o rfl (qZ xs) (ng y) (Blk.new _ 38 (nc y).toArray) HC.o.ne_new (aK HC.o.le (by simp))).mono ?_;rintro e w4 ⟨v4,rfl,ue,hg4,_⟩;have OF:=dH (Blk.grown (Blk.alloc mW.o _) hg4 (fun e=>HC.o.ne_at VC.o e.symm));have HF:=dH (And.intro (jy rfl Kk.o ue) (HC.o.fin_alloc hg4));clear ue hg4))
  all_goals (go_wp2_with fail;go_ret;exact ⟨_,rfl,HF.o⟩)
end
end Go.Proofs.YtgdaahffmcfhpaaGreatDoor
