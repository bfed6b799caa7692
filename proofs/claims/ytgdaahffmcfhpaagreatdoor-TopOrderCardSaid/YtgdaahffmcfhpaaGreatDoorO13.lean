/- Lemmas on the way: VNa VNb VSa VSb VQ VR. -/
import Derived.Maps.Range
import Derived.Test.YtgdaahffmcfhpaaGreatDoorO07
set_option maxRecDepth 100000
set_option maxHeartbeats 8000000
namespace Go.Proofs.YtgdaahffmcfhpaaGreatDoor
open aA
open Tryz
section
open Go.RowKit
open Go.ChangeMaps (setBlock)
attribute [local go_sem] dR dO dS dP
def iW (l:List (Nd×Nat)):List (St×Value×Nat):=l.map λp=>(p.1.id,nv p.1,p.2)
def jE (l:List (Nd×Nat)):List MapEntry:=(iW l).map (fq sv)
def ids (xs:List Nd):List St:=xs.map (·.id)
def gd (w:World) (b:Nat) (es:List Nd):Prop:=
 ∃(l:List (Nd×Nat)) (clock:Nat),l.map (·.1)=es/\w.heap[b]? =some (.map (jE l).toArray clock)/\(l.map (·.2)).Nodup/\(∀e∈l,e.2 < clock)/\(ids es).Nodup
section
variable {w w':World} {b:Nat} {es:List Nd}
theorem gd.lt (h:gd w b es):b < w.heap.size:=by
 obtain ⟨l,c,_,hb,_⟩:=h;rcases aD b w with hlt|hge
 ·exact hlt
 ·rw [ax hge] at hb;cases hb
theorem gd.heap (h:gd w b es) (hb:w'.heap[b]? =w.heap[b]?):gd w' b es:=by
 obtain ⟨l,c,h1,h2,rest⟩:=h;exact ⟨l,c,h1,hb.trans h2,rest⟩
theorem gd.below (h:gd w b es) (hb:Below w w w'):gd w' b es:=h.heap (hb.block b h.lt)
theorem gd.grown {row:Option Nat} (h:gd w b es) (hb:w.grownBy w' row) (hg:some b≠row):gd w' b es:=h.heap (hb.block b h.lt hg)
theorem gd.nodup (h:gd w b es):(ids es).Nodup:=by
 obtain ⟨_,_,_,_,_,_,h⟩:=h;exact h
theorem gd.new (w:World):gd (w.alloc (.map #[] 0)) w []:=⟨[],0,rfl,heap_alloc_new w _,List.Pairwise.nil,by simp,List.Pairwise.nil⟩
theorem gd.ne_blk (h:gd w b es) {g:Nat} {t:TypeId} {cs:Array Value} (hg:Blk w g t cs):b≠g:=by
 rintro rfl;obtain ⟨l,c,_,hb,_⟩:=h;unfold Blk at hg;rw [hb] at hg;cases hg
end
theorem k9:MapTy prog sv 63 30 38 (nv nd0) where
 map_:=by kernel_rfl
 zero:=λw=>by simp [go_sem,nv,nd0,bs]
 eq:=λx y w=>Ul x y w
 check:=λe x w=>DF e x 9998 w
 wide:=⟨_,underlying30,λa b=>rfl⟩
 bits:=λs=>by simp [Instr.sameBits,sv]
theorem nN (s:St):∀l:List (Nd×Nat),place (iW l) s=((l.map (·.1)).findIdx? (eZ s)).map λi=>(i,((l.getD i (nd0,0)).1.id,nv (l.getD i (nd0,0)).1,(l.getD i (nd0,0)).2))
 | []=>rfl
 |e :: r=>by
  have ih:=nN s r;unfold iW at ih ⊢;simp only [bB,place,List.findIdx?_cons,eZ];by_cases c:s=e.1.id
  ·subst c
   simp
  ·have c':¬ e.1.id=s:=λh=>c h.symm
   simp only [c,c',if_false,decide_false,bp];rw [ih];cases (r.map (·.1)).findIdx? (eZ s) with
   |none=>rfl
   |some i=>simp
variable {xs es:List Nd}
theorem jM{s:St}:(∀i,xs.findIdx? (eZ s)=some i->∃h:i < xs.length,xs.find? (eZ s)=some xs[i]/\xs[i].id=s)/\(xs.findIdx? (eZ s)=none->xs.find? (eZ s)=none):=by
 refine ⟨λi h=>?_,λh=>?_⟩
 ·obtain ⟨hi,h2,h3⟩:=au.1 h
  refine ⟨hi,?_,by simpa [eZ] using h2⟩;rw [List.find?_eq_some_iff_getElem];exact ⟨h2,i,hi,rfl,λj hj=>by have:=h3 j hj;simpa using this⟩
 ·rw [bK] at h
  exact List.find?_eq_none.2 λx hx=>by rw [h x hx];simp
variable {w:World} {b i:Nat}
theorem gd.look2 (h:gd w b es) (s:St):
  (Instr.lookup 63 (.map (some b)) (sv s) true).run prog w=.ok (.tuple #[nv (eX s es),(er s es)]) w:=by
 obtain ⟨l,c,rfl,hb,_⟩:=h;have mS:=finding k9 s w (iW l);simp only [Instr.lookup,Sem.run_bind,run_underlying k9.map_,Go.MapKept.run_getObj_map hb,Sem.run_pure,Result.andThen_ok,k9.check];unfold jE;rw [mS,nN];unfold eX er;have hf:=jM (s:=s) (xs:=l.map (·.1));cases hp:(l.map (·.1)).findIdx? (eZ s) with
 |none=>
  rw [hf.2 hp];simp [k9.zero]
 |some i=>
  obtain ⟨hi,h1,_⟩:=hf.1 i hp;rw [h1];have hi':i < l.length:=by simpa using hi
  simp [List.getD_eq_getElem?_getD,hi']
theorem gd.len (h:gd w b es) (ty:TypeId):(Builtin.len_ #[63] ty #[.map (some b)]).run prog w=.ok (.int .i64 es.length) w:=by
 obtain ⟨l,c,rfl,hb,_⟩:=h;unfold Builtin.len_;simp only [Sem.run_bind,aO,aT,run_underlying k9.map_,Result.andThen_ok,MapKept.run_getObj_map hb,Sem.run_pure];simp [jE,iW,goInt]
def jF (es:List Nd) (n:Nd):List Nd:=match es.findIdx? (eZ n.id) with
 |some i=>es.set i n
 |none=>es++[n]
def DR (es:List Nd) (s:St):List Nd:=match es.findIdx? (eZ s) with
 |some i=>es.eraseIdx i
 |none=>es
theorem Ry (l:List (Nd×Nat)) (i:Nat) (n:Nd) (hi:i < l.length):((jE l).toArray.modify i λe=>{ e with key:=sv n.id,val:=nv n })=(jE (l.set i (n,l[i].2))).toArray:=by
 apply cQ;intro j;simp only [jE,iW,cK,aO,cL,List.getElem?_set];by_cases cj:i=j
 ·subst cj;simp [hi,fq]
 ·simp [cj]
theorem vj {n:Nd} (hi:i < xs.length) (h:xs[i].id=n.id):ids (xs.set i n)=ids xs:=by
 apply List.ext_getElem?;intro j;simp only [ids,cL,List.getElem?_set];by_cases cj:i=j
 ·subst cj;simp [hi,h]
 ·simp [cj]
theorem tD {α β:Type} (f:α->β):∀(l:List α) (i:Nat),(l.eraseIdx i).map f=(l.map f).eraseIdx i
 | [],_=>rfl
 |a :: r,0=>rfl
 |a :: r,i+1=>by simp [List.eraseIdx_cons_succ,tD f r i]
theorem gd.put (h:gd w b es) (n:Nd):
  ∃w1,(Instr.mapUpdate 63 (.map (some b)) (sv n.id) (nv n)).run prog w=.ok () w1/\gd w1 b (jF es n)/\w.grownBy w1 (some b)/\w1.heap.size=w.heap.size:=by
 obtain ⟨l,c,rfl,hb,hnd,hlt,hid⟩:=h;have mS:=finding k9 n.id w (iW l);rw [nN] at mS;have hf:=jM (s:=n.id) (xs:=l.map (·.1));cases hp:(l.map (·.1)).findIdx? (eZ n.id) with
 |some i=>
  obtain ⟨hi,h1,YY⟩:=hf.1 i hp;have hi':i < l.length:=by simpa using hi
  obtain ⟨w1,hr,dV,hg1,hs1⟩:=set_obj (P:=prog) (.map (jE (l.set i (n,l[i].2))).toArray c) hb;have hput:jF (l.map (·.1)) n=(l.set i (n,l[i].2)).map (·.1):=by unfold jF;rw [hp];simp [List.map_set]
  refine ⟨w1,?_,⟨l.set i (n,l[i].2),c,hput.symm,dV,?_,λe he=>?_,?_⟩,hg1,hs1⟩
  ·rw [hp] at mS
   simp only [Instr.mapUpdate,Sem.run_bind,run_underlying k9.map_,Go.MapKept.run_getObj_map hb,Result.andThen_ok,k9.check];rw [show (jE l)=(iW l).map (fq sv) from rfl,mS];have h2:(((iW l).map (fq sv)).toArray[i]?).map (·.key)=some (sv n.id):=by
    have:l[i].1.id=n.id:=by simpa using YY
    simp [iW,fq,hi',this]
   have hm:=Ry l i n hi';unfold jE at hm;simp only [bI,Result.andThen_ok,h2,bw,Instr.keyThatStays,k9.bits,if_true,Sem.run_bind,Sem.run_pure,hm];exact hr
  ·have:(l.set i (n,l[i].2)).map (·.2)=l.map (·.2):=by
    apply List.ext_getElem?;intro j;simp only [cL,List.getElem?_set];by_cases cj:i=j
    ·subst cj;simp [hi']
    ·simp [cj]
   rw [this];exact hnd
  ·rcases List.mem_or_eq_of_mem_set he with he|rfl
   ·exact hlt e he
   ·exact hlt l[i] (aa hi')
  ·have h3:jF (l.map (·.1)) n=(l.map (·.1)).set i n:=by unfold jF;rw [hp]
   rw [h3,vj hi YY];exact hid
 |none=>
  have hno:=hf.2 hp;obtain ⟨w1,hr,dV,hg1,hs1⟩:=set_obj (P:=prog) (.map (jE (l++[(n,c)])).toArray (c+1)) hb;have hput:jF (l.map (·.1)) n=(l++[(n,c)]).map (·.1):=by unfold jF;rw [hp];simp
  refine ⟨w1,?_,⟨l++[(n,c)],c+1,hput.symm,dV,?_,λe he=>?_,?_⟩,hg1,hs1⟩
  ·rw [hp] at mS
   simp only [Instr.mapUpdate,Sem.run_bind,run_underlying k9.map_,Go.MapKept.run_getObj_map hb,Result.andThen_ok,k9.check];rw [show (jE l)=(iW l).map (fq sv) from rfl,mS];have hm:(jE l).toArray.push { key:=sv n.id,val:=nv n,born:=c }=(jE (l++[(n,c)])).toArray:=by simp [jE,iW,fq]
   unfold jE at hm;simp only [Option.map_none,Result.andThen_ok,hm];exact hr
  ·rw [bQ]
   refine cE.2 ⟨hnd,by simp,?_⟩;intro a ha b hb';obtain ⟨x,hx,rfl⟩:=aU.1 ha;simp at hb';have:=hlt x hx;omega
  ·rcases aq.1 he with h|h
   ·have:=hlt e h;omega
   ·simp at h;rw [h];exact Nat.lt_succ_self _
  ·have h3:jF (l.map (·.1)) n=l.map (·.1)++[n]:=by unfold jF;rw [hp]
   rw [h3];unfold ids at hid ⊢;rw [bQ];refine cE.2 ⟨hid,by simp,?_⟩;intro a ha b hb';obtain ⟨x,hx,rfl⟩:=aU.1 ha;simp at hb';have:=List.find?_eq_none.1 hno x hx;simp [eZ] at this;rw [hb'];exact this
theorem gd.del (h:gd w b es) (s:St) (ty:TypeId):
  ∃w1,(Builtin.delete_ #[63,30] ty #[.map (some b),sv s]).run prog w=.ok (.tuple #[]) w1/\gd w1 b (DR es s)/\w.grownBy w1 (some b)/\w1.heap.size=w.heap.size:=by
 obtain ⟨l,c,rfl,hb,hnd,hlt,hid⟩:=h;have mS:=finding k9 s w (iW l);rw [nN] at mS;have hf:=jM (s:=s) (xs:=l.map (·.1));cases hp:(l.map (·.1)).findIdx? (eZ s) with
 |some i=>
  obtain ⟨hi,h1,YY⟩:=hf.1 i hp;have hi':i < l.length:=by simpa using hi
  obtain ⟨w1,hr,dV,hg1,hs1⟩:=set_obj (P:=prog) (.map (jE (l.eraseIdx i)).toArray c) hb;have Et:DR (l.map (·.1)) s=(l.eraseIdx i).map (·.1):=by unfold DR;rw [hp];simp [tD]
  refine ⟨w1,?_,⟨l.eraseIdx i,c,Et.symm,dV,?_,λe he=>hlt e (List.mem_of_mem_eraseIdx he),?_⟩,hg1,hs1⟩
  ·rw [hp] at mS
   unfold Builtin.delete_;simp only [Sem.run_bind,aO,aT,aZ,run_underlying k9.map_,Result.andThen_ok,MapKept.run_getObj_map hb,k9.check];rw [show (jE l)=(iW l).map (fq sv) from rfl,mS];have hm:(jE l).toArray.eraseIdxIfInBounds i=(jE (l.eraseIdx i)).toArray:=by
    apply Array.toList_inj.1;simp [jE,iW,Array.eraseIdxIfInBounds,hi',tD]
   unfold jE at hm;simp only [bI,Result.andThen_ok,hm];rw [show (iW (l.eraseIdx i)).map (fq sv)=jE (l.eraseIdx i) from rfl,Sem.run_bind,hr];rfl
  ·exact (List.Sublist.map _ (List.eraseIdx_sublist l i)).nodup hnd
  ·rw [Et]
   exact (List.Sublist.map _ (List.Sublist.map _ (List.eraseIdx_sublist l i))).nodup hid
 |none=>
  obtain ⟨w1,hr,dV,hg1,hs1⟩:=set_obj (P:=prog) (.map (jE l).toArray c) hb;have Et:DR (l.map (·.1)) s=l.map (·.1):=by unfold DR;rw [hp]
  refine ⟨w1,?_,⟨l,c,Et.symm,dV,hnd,hlt,by rw [Et];exact hid⟩,hg1,hs1⟩;rw [hp] at mS;unfold Builtin.delete_;simp only [Sem.run_bind,aO,aT,aZ,run_underlying k9.map_,Result.andThen_ok,MapKept.run_getObj_map hb,k9.check];rw [show (jE l)=(iW l).map (fq sv) from rfl,mS];simp only [Option.map_none,Result.andThen_ok];rw [show (iW l).map (fq sv)=jE l from rfl,Sem.run_bind,hr];rfl
theorem WD (w:World):(Instr.makeMap 63 none).run prog w=.ok (.map (some w.heap.size)) (w.alloc (.map #[] 0)):=by simp [Instr.makeMap,go_sem]
end
section
open Go.RowKit
open Go.ChangeMaps (setBlock)
def iq (w:World) (b r:Nat) (es rest:List Nd):Prop:=
 ∃(l:List (Nd×Nat)) (clock:Nat) (seen:Array Nat) (c0:Nat),l.map (·.1)=es/\w.heap[b]? =some (.map (jE l).toArray clock)/\(l.map (·.2)).Nodup/\(∀e∈l,e.2 < clock)/\(ids es).Nodup/\
  w.heap[r]? =some (.mapIter (some b) clock seen c0)/\clock<=c0/\(l.filter λe=>!seen.contains e.2).map (·.1)=rest
section
variable {w w':World} {b r:Nat} {es rest:List Nd}
theorem iq.map (h:iq w b r es rest):gd w b es:=by
 obtain ⟨l,c,seen,c0,h1,h2,h3,h4,h5,_⟩:=h;exact ⟨l,c,h1,h2,h3,h4,h5⟩
theorem gh {w:World} {b:Nat} {o:Obj} (hb:w.heap[b]? =some o):b < w.heap.size:=by
 rcases aD b w with hlt|hge
 ·exact hlt
 ·rw [ax hge] at hb;cases hb
theorem iq.lt (h:iq w b r es rest):r < w.heap.size:=by
 obtain ⟨l,c,seen,c0,_,_,_,_,_,hb,_⟩:=h;exact gh hb
theorem iq.heap (h:iq w b r es rest) (hb:w'.heap[b]? =w.heap[b]?) (hr:w'.heap[r]? =w.heap[r]?):iq w' b r es rest:=by
 obtain ⟨l,c,seen,c0,h1,h2,h3,h4,h5,h6,rest⟩:=h;exact ⟨l,c,seen,c0,h1,hb.trans h2,h3,h4,h5,hr.trans h6,rest⟩
theorem iq.grown {row:Option Nat} (h:iq w b r es rest) (hb:w.grownBy w' row) (h1:some b≠row) (h2:some r≠row):iq w' b r es rest:=h.heap (hb.block b h.map.lt h1) (hb.block r h.lt h2)
theorem iq.below (h:iq w b r es rest) (hb:Below w w w'):iq w' b r es rest:=h.heap (hb.block b h.map.lt) (hb.block r h.lt)
theorem iq.alloc (h:iq w b r es rest) (o:Obj):iq (w.alloc o) b r es rest:=h.below ((aC _ w).alloc (aB _) o)
theorem lE (l:List (Nd×Nat)) (seen:Array Nat):(leftOf (jE l).toArray seen).toList=jE (l.filter λe=>!seen.contains e.2):=by
 unfold leftOf jE iW;simp only [List.map_map,List.filter_toArray,List.filter_map];rfl
theorem rW {l:List (Nd×Nat)} {e:MapEntry} (h:e∈jE l):∃p∈l,e=fq sv (p.1.id,nv p.1,p.2):=by
 unfold jE iW at h;rw [List.map_map] at h;obtain ⟨p,hp,rfl⟩:=aU.1 h;exact ⟨p,hp,rfl⟩
theorem wk (l:List (Nd×Nat)):(jE l).map (·.born)=l.map (·.2):=by
 unfold jE iW;simp [fq,Function.comp_def]
theorem mc {seen:Array Nat} {p:Nd×Nat}:∀{l:List (Nd×Nat)},(l.map (·.2)).Nodup->p∈l->seen.contains p.2=false->
  (l.filter λx=>!seen.contains x.2).Perm (p :: (l.filter λx=>!(seen.push p.2).contains x.2))
 | [],_,h,_=>by cases h
 |a :: r,hn,h,hs=>by
  rw [bB,List.nodup_cons] at hn;obtain ⟨qX,hn2⟩:=hn;by_cases ha:a=p
  ·subst ha
   have hr:r.filter (λx=>!(seen.push a.2).contains x.2)=r.filter (λx=>!seen.contains x.2):=by
    apply List.filter_congr;intro x hx;have hne:x.2≠a.2:=λe'=>qX (e' ▸ aU.2 ⟨x,hx,rfl⟩)
    simp [hne]
   have h1:(!(seen.push a.2).contains a.2)=false:=by simp
   have h2:(!seen.contains a.2)=true:=by rw [hs];rfl
   rw [bu,bu,h1,h2,hr];simp
  ·have he:p∈r:=by rcases aQ.1 h with h|h;exact absurd h.symm ha;exact h
   have ih:=mc hn2 he hs;have hne:a.2≠p.2:=λe'=>qX (e' ▸ aU.2 ⟨p,he,rfl⟩)
   have h1:(!(seen.push p.2).contains a.2)=(!seen.contains a.2):=by simp [hne]
   rw [bu,bu,h1];cases (!seen.contains a.2) with
   |false=>simpa using ih
   |true=>
    simp only [if_true];exact (ih.cons a).trans (List.Perm.swap _ _ _)
theorem iq.left (h:iq w b r es rest):w.rangeLeft b r=rest.length:=by
 obtain ⟨l,c,seen,c0,_,hb,_,_,_,hr,_,hc⟩:=h;unfold World.rangeLeft;rw [hb,hr];simp only;rw [<-hc,bJ,<-cC,lE];simp [jE,iW]
theorem iq.next {P:Program} (h:iq w b r es rest) (ty:TypeId):
  (rest=[]/\(Instr.next (.pointer (some r)) false ty).run P w=.ok (.tuple #[false]) w)\/
  ∃n rest' w',rest.Perm (n :: rest')/\(Instr.next (.pointer (some r)) false ty).run P w=.ok (.tuple #[true,sv n.id,nv n]) w'/\iq w' b r es rest'/\w.grownBy w' (some r)/\w'.heap.size=w.heap.size/\
   (Instr.entry (.pointer (some r))).run P w'=.ok (.tuple #[sv n.id,nv n]) w':=by
 obtain ⟨l,c,seen,c0,hl,hb,hnd,hlt,hid,hr,hle,hc⟩:=h;have vQ:b≠r:=by rintro rfl;rw [hb] at hr;cases hr
 have hold:∀x∈(jE l).toArray.toList,x.born < c:=λx hx=>by
  obtain ⟨p,hp,rfl⟩:=rW (by simpa using hx);exact hlt p hp
 rcases run_next_at (P:=P) w ty r b c c0 seen (jE l).toArray c hr hb hold hle with ⟨h0,hrun⟩| ⟨e,he,w1,hal,hrun⟩
 ·have hnil:l.filter (λx=>!seen.contains x.2)=[]:=by
   have h1:=lE l seen;rw [az (show (leftOf (jE l).toArray seen).toList.length=0 by rw [cC];exact h0)] at h1;have:=congrArg List.length h1;simp only [jE,iW,bE,bJ] at this;exact az this.symm
  rw [hnil] at hc;exact .inl ⟨hc.symm,hrun⟩
 ·rw [lE] at he
  obtain ⟨p,hp,rfl⟩:=rW he;obtain ⟨hpl,hps⟩:=List.mem_filter.1 hp;have Hu:seen.contains p.2=false:=by simpa using hps
  have XN:=mc hnd hpl Hu;have Eu:w1.heap[r]? =some (.mapIter (some b) c seen c0):=by rcases hal with rfl|rfl <;> exact hr
  have gw:=MapKept.heap_set (o':=.mapIter (some b) c (seen.push p.2) c) Eu;have hb':(setBlock w1 r (.mapIter (some b) c (seen.push p.2) c)).heap[b]? =some (.map (jE l).toArray c):=(gw.2 b (λe1=>vQ e1)).trans (by rcases hal with rfl|rfl <;> exact hb);refine .inr ⟨p.1,(l.filter λx=>!(seen.push p.2).contains x.2).map (·.1),_,?_,hrun,⟨l,c,seen.push p.2,c,hl,hb',hnd,hlt,hid,gw.1,aB _,rfl⟩,?_,?_,?_⟩
  ·rw [<-hc]
   exact XN.map _
  ·have hg1:w.grownBy w1 (some r):=by rcases hal with rfl|rfl;exact dz _ _;exact kQ (dz _ _)
   exact fJ hg1 ⟨rfl,rfl,rfl,by simp [setBlock],λi _ hne=>gw.2 i (λe=>hne (by rw [e]))⟩
  ·have:w1.heap.size=w.heap.size:=by rcases hal with rfl|rfl <;> rfl
   rw [<-this];simp [setBlock]
  ·exact run_entry_at (P:=P) _ r b c seen (jE l).toArray c _ gw.1 hb' (by
    have h2:fq sv (p.1.id,nv p.1,p.2)∈jE l:=by unfold jE iW;exact aU.2 ⟨_,aU.2 ⟨p,hpl,rfl⟩,rfl⟩
    simpa using h2) (by
    have:=wk l;simpa [this] using hnd)
theorem gd.range (h:gd w b es):
  ∃w',(Instr.range 63 (.map (some b))).run prog w=.ok (.pointer (some w)) w'/\iq w' b w es es/\Below w w w'/\w'.heap.size=w.heap.size+1:=by
 have hlt:=h.lt;obtain ⟨l,c,hl,hb,hnd,hlt',hid⟩:=h;refine ⟨_,run_range_map w 63 30 38 b _ _ k9.map_ hb,⟨l,c,#[],c,hl,(bM w _ b hlt).trans hb,hnd,hlt',hid,heap_alloc_new w _,aB _,?_⟩,(aC _ w).alloc (aB _) _,by simp⟩;rw [<-hl];congr 1;simp
end
end
section
open Go.RowKit
attribute [local go_sem] dR dO dS dP
def zn:Array Value:=#[.int .i64 0,.int .i64 0,.bool false,.int .i64 0,.int .i64 0,.string ⟨#[]⟩,.string ⟨#[]⟩]
structure kY (w:World) (p m:Nat) (v:Value) (r:Int) (es:List Nd):Prop where
 blk:Blk w p 66 #[v,.map (some m),r]
 map:gd w m es
section
variable {w w':World} {p m:Nat} {v:Value} {r:Int} {es:List Nd}
theorem kY.below (h:kY w p m v r es) (hb:Below w w w'):kY w' p m v r es:=⟨h.blk.below hb h.blk.lt,h.map.below hb⟩
theorem kY.c0 (h:kY w p m v r es):w.cell? p=some v:=by rw [h.blk.cell];rfl
theorem kY.c1 (h:kY w p m v r es):w.cell? (Qc p 1)=some (.map (some m)):=by rw [h.blk.cell];rfl
theorem kY.c2 (h:kY w p m v r es):w.cell? (Qc p 2)=r:=by rw [h.blk.cell];rfl
theorem kY.alloc (h:kY w p m v r es) (o:Obj):kY (w.alloc o) p m v r es:=h.below ((aC _ w).alloc (aB _) o)
end
theorem wu (s:St) (p m:Nat) (v:Value) (r:Int) (es:List Nd) (w:World) (h:kY w p m v r es):
  Calls prog 149 #[Qp p,sv s] w (dM w (.bool (gM s es))):=by
 have dV:=dH w (.cells #[s.1,s.2] 30);have hB:=Blk.new w 30 #[s.1,s.2];have q0:=hB.cell 0;have q1:=hB.cell 1;simp only [aO,aT,aZ] at q0 q1;have h1:=h.alloc (.cells #[s.1,s.2] 30);have hz:=iE s (0,0);obtain ⟨w1,hw1⟩:=dG (w.alloc (.cells #[s.1,s.2] 30));rw [<-hw1] at dV h1 q0 q1;have c1:=h1.c1;have hl:=(h1.map.below (w':=(w1.alloc (.cells zn 38)).drew) ((aC _ w1).alloc (aB _) _).drew).look2 s;have tu:(Instr.lookup 63 (.map (some m)) (sv s) true).run prog w1.drew=.ok (.tuple #[nv (eX s es),(er s es)]) w1.drew:=(h1.map.below (w':=w1.drew) (aC _ w1).drew).look2 s;have k1:(w1.alloc (.cells zn 38)).cell? (Qc p 1)=some (.map (some m)):=cell?_alloc_old c1 _;have k0:(w1.alloc (.cells zn 38)).cell? w=s.1:=cell?_alloc_old q0 _;have k2:(w1.alloc (.cells zn 38)).cell? (Qc w 1)=s.2:=cell?_alloc_old q1 _;have HW:=dL hw1;have HB:=dL dV;clear hw1 h1 dV hB h;unfold gM;unfold sv nv zn at*;generalize eX s es=y at*;generalize er s es=is at*;go_enter func149,ntmps149;go_wp2_with fail;rw [<-HW.o];go_wp2_with fail;go_region;all_goals
  have eA:=dL (show Below w w ((w1.alloc (.cells #[y.id.1,y.id.2,y.dir,y.par.1,y.par.2,y.nm,y.mf] 38)).drew) from (HB.o.alloc HB.o.size _).drew);have k3:=(Blk.new w1 38 (nc y).toArray).cell 2;have k4:=cell?_alloc_old q0 (.cells (nc y).toArray 38);have k5:=cell?_alloc_old q1 (.cells (nc y).toArray 38);unfold nc at k3 k4 k5;simp only [aO,aT,aZ] at k3;clear k0 k1 k2 hl tu c1;cases h0:decide (s=(0,0)) with
  |true=>
   simp only [h0] at hz;go_wp2_with fail;go_ret;exact ⟨by simp [h0],eA.o⟩
  |false=>
   simp only [h0] at hz;cases is with
   |true=>
    go_wp2_with fail;go_ret;exact ⟨by simp [h0],eA.o⟩
   |false=>
    go_wp2_with fail;go_ret;exact ⟨by simp [h0],eA.o⟩
end
section
open Go.RowKit
attribute [local go_sem] dR dO dS dP
def belowP (xs:List Nd):Nat->St->St->Bool
 |0,_,_=>false
 |f+1,id,nd=>if id=nd then true else if er id xs then belowP xs f (eX id xs).par nd else false
structure Ur (B0:Nat) (w0 wr:World) (id nd:St):Prop where
 b1:Blk wr B0 30 #[id.1,id.2]
 b2:Blk wr (B0+1) 30 #[nd.1,nd.2]
 below:Below B0 w0 wr
variable {w w' w4:World}
theorem Ur.stay{B0:Nat} {w0 wr:World} {id nd:St} (h:Ur B0 w0 wr id nd) (hb:Below wr wr w'):Ur B0 w0 w' id nd:=
 ⟨h.b1.below hb h.b1.lt,h.b2.below hb h.b2.lt,h.below.trans (hb.mono (ag h.b1.lt))⟩
theorem Ur.set_ {B0:Nat} {w0 wr:World} {id nd:St} (h:Ur B0 w0 wr id nd) (s:St):Ur B0 w0 ((wr.setCell B0 s.1).setCell (Qc B0 1) s.2) s nd:=by
 have gw:=Blk.set_ (Blk.set_ h.b1 0 (.int .i64 s.1)) 1 (.int .i64 s.2);exact ⟨by simpa using gw,Blk.far (Blk.far h.b2 (by simp) _) (by simp) _,(h.below.setCell (p:=B0) (aB _) _).setCell (p:=Qc B0 1) (aB _) _⟩
theorem KF (s nd:St) (p m:Nat) (v:Value) (r:Int) (es:List Nd) (w:World) (h:kY w p m v r es) (hm:es.length<=1000000):
  Calls prog 150 #[Qp p,sv s,sv nd] w (dM w (.bool (belowP es (es.length+1) s nd))):=by
 obtain ⟨w1,hw1⟩:=dG ((w.alloc (.cells #[s.1,s.2] 30)).alloc (.cells #[nd.1,nd.2] 30));have hB:Ur w w w1 s nd:=by
  rw [hw1];exact ⟨(Blk.new w 30 _).alloc _,by simpa using Blk.new (w.alloc (.cells #[s.1,s.2] 30)) 30 #[nd.1,nd.2],((aC _ w).alloc (aB _) _).alloc (by simp) _⟩
 have h1:kY w1 p m v r es:=h.below hB.below;have c1:=h1.c1;have hlen:∀ty,(Builtin.len_ #[63] ty #[.map (some m)]).run prog w1=.ok (.int .i64 es.length) w1:=h1.map.len;have hsz:=hB.b2.lt;rw [hw1] at c1 hlen;have HS:=dL h;have HB:=dL hB;have HW:=dL hw1;generalize hRR:belowP es (es.length+1) s nd=R;have HRR:=dL hRR;clear hw1 hB h h1 hRR;unfold sv;go_enter func150,ntmps150;go_wp2_with fail;rw [<-HW.o];clear c1 hlen;go_loopw [15] (λi wr=>∃(k:Nat) (id:St),k<=es.length+1/\i=.int .i64 k/\Ur w w wr id nd/\belowP es (es.length+1 - k) id nd=R) (λi _=>es.length+1 - (intOf i).toNat)
 case atStart=>exact ⟨0,s,by omega,rfl,HB.o,HRR.o⟩
 case round=>
  obtain ⟨k,id,hk,rfl,hB,hR⟩:=hrel;have hst:kY wr p m v r es:=HS.o.below hB.below;have c1:=hst.c1;have q0:=hB.b1.cell 0;have q1:=hB.b1.cell 1;have n0:=hB.b2.cell 0;have n1:=hB.b2.cell 1;simp only [aO,aT,aZ] at q0 q1 n0 n1;rcases aD k (es.length+1) with hlt|hge
  ·have hki:(k:Int) < (es.length:Int)+1:=by omega
   have he:=iE id nd;rw [show es.length+1 - k=(es.length - k)+1 from by omega] at hR;unfold belowP at hR;by_cases h0:id=nd
   ·have hd:decide (id=nd)=true:=decide_eq_true h0
    rw [if_pos h0] at hR;have HR:=dL hR;simp only [hd] at he;have eA:=dL hB.below;clear hR h0 hB hst;go_wp2_with fail;go_ret;exact ⟨by rw [<-HR.o];rfl,eA.o⟩
   ·have hd:decide (id=nd)=false:=decide_eq_false h0
    rw [if_neg h0] at hR;have HR:=dL hR;have oT:=dL hB;simp only [hd] at he;have hl:=(hst.map.below (w':=(wr.alloc (.cells zn 38)).drew) ((aC _ wr).alloc (aB _) _).drew).look2 id;have tu:(Instr.lookup 63 (.map (some m)) (sv id) true).run prog wr.drew=.ok (.tuple #[nv (eX id es),(er id es)]) wr.drew:=(hst.map.below (w':=wr.drew) (aC _ wr).drew).look2 id;have k1:(wr.alloc (.cells zn 38)).cell? (Qc p 1)=some (.map (some m)):=cell?_alloc_old c1 _;have k0:(wr.alloc (.cells zn 38)).cell? w=id.1:=cell?_alloc_old q0 _;have k2:(wr.alloc (.cells zn 38)).cell? (Qc w 1)=id.2:=cell?_alloc_old q1 _;clear hR h0 hB hst hd;unfold sv nv zn at*;generalize hy:eX id es=y at*;generalize Tf:er id es=is at*;have HY:=dL hy;have HI:=dL Tf;clear hy Tf;go_wp2_with fail;go_region;all_goals
     have fD:=oT.o.stay (w':=(wr.alloc (.cells (nc y).toArray 38)).drew) ((aC _ wr).alloc (aB _) _).drew;have eC:=dL fD.below;have fI:=dL (fD.set_ y.par);have k3:=(Blk.new wr 38 (nc y).toArray).cell 3;have k4:=(Blk.new wr 38 (nc y).toArray).cell 4;have gH:=oT.o.stay (w':=(wr.alloc (.cells (nc y).toArray 38))) ((aC _ wr).alloc (aB _) _);have f0:=gH.b1.frozen 0;have f1:=gH.b1.frozen 1;have q0':=gH.b1.cell 0;have q1':=gH.b1.cell 1;unfold nc at k3 k4 fI eC f0 f1 q0' q1';simp only [aO,aT,aZ] at k3 k4 q0' q1';clear k0 k1 k2 hl tu c1 q0 q1 n0 n1 he fD gH;cases is with
     |false=>
      go_wp2_with fail;go_ret;exact ⟨by rw [<-HR.o];rfl,eC.o⟩
     |true=>
      go_wp2_with fail;exact ⟨⟨k+1,y.par,by omega,by go_num,fI.o,by
       rw [<-HR.o,show es.length+1 - (k+1)=es.length - k from by omega];rfl⟩,by simp [intOf];omega⟩
  ·have hkn:¬ (k:Int) < (es.length:Int)+1:=by omega
   have hf:es.length+1 - k=0:=by omega
   rw [hf] at hR;have HR:=dL hR;have eA:=dL hB.below;clear hR hf hB hst;go_wp2_with fail;go_ret;exact ⟨by rw [<-HR.o];rfl,eA.o⟩
theorem Zu (a b:Addr) (la ca lb cb:Nat) (w:World) (hne:a.block≠b.block) (tA tB:TypeId) (kA kB:Nat) (hsa:w.shape? a.block=some (tA,kA)) (hsb:w.shape? b.block=some (tB,kB)) (hkB:kB≠0) (hfa:w.frozen? a=false) (hfe:w.frozen? { block:=a.block,off:=kA }=false):
  (callFunc 239 #[.slice (some a) la ca,.slice (some b) lb cb]).run prog w=.ok (.value (.bool false)) w:=by
 have hz:∀w,(Go.sizeOf 38).run prog w=.ok 7 w:=λw=>by
  obtain ⟨i0,gV,hz0,hz1,hz2⟩:=info_parts qf;simp [sizeOf,typeInfo,gV,hz1]
 rw [run_callFunc_extern func239 (by kernel_rfl) (by kernel_rfl) (by kernel_rfl) (e:=Extern.SlicesOverlaps.overlaps #[33,33] #[4]) (by kernel_rfl),
  Lib.run_overlaps_apart w 33 4 38 underlying33 7 hz a b la ca lb cb hne tA tB kA kB hsa hsb hkB hfa hfe]
 rfl
def ir (B:Nat) (w:World) (v:Value) (n k:Nat) (cs vs:List Value) (e:Ending) (w':World):Prop:=
 ∃v',e=.returned v'/\dQ w' B 7 v' (n+1) (cs.take (k*7)++(vs++cs.drop (k*7)))/\w.grownBy w' v.ownBlock/\(v'.ownBlock=v.ownBlock\/v'.ownBlock=some w.heap.size)
theorem BV (B:Nat) (v:Value) (n:Nat) (cs vs:List Value) (vb vc:Nat) (w:World) (hO:dQ w B 7 v n cs) (hm:n<=1000000) (hvl:vs.length=7) (nG:∀u∈vs,u.oneCell'=true)
  (hvs:∀j u,vs[j]? =some u->w.cell? ⟨vb,0+j,none⟩=some u) (hB:B<=w.heap.size):
  Calls prog 163 #[v,n,Qs vb 1 vc] w (ir B w v n n cs vs):=by
 obtain ⟨i0,gV,hz0,hz1,hz2⟩:=info_parts qf;have hsrc:Src prog 7 33 (.slice (some vb) 1 vc) 1 vs w:=Src.ofSlice w underlying33 ⟨vb,0,none⟩ 1 vc vs (by omega) (λj u hj=>by rw [Addr.add_lit];exact hvs j u hj) nG;have hcl:=hO.len;have e1:cs.take (n*7)++(vs++cs.drop (n*7))=cs++vs:=by rw [af (by omega),cw (by omega),bG]
 unfold ir;rw [e1];have HO:=dL hO;have HS:=dL hsrc;have HI:=dL gV;have gx:=dL hz0;have gJ:=dL hz1;have gT:=dL hz2;have HB:=dL hB;rcases hO.2 with ⟨rfl,rfl⟩| ⟨g,cap,rfl,hb,hlt,hnc,hcm,hs,hf,hx⟩
 ·clear hsrc gV hz0 hz1 hz2 hB hvs nG e1 hcl hO hvl
  go_enter func163,ntmps163;go_wp2_with (at_builtin;refine dW _ rfl (.tmp 23) (.tmp 24) 33 33 rfl 38 i0 (.agg #[qn,qn,false,qn,qn,yj,yj]) 7 underlying33 HI.o gx.o gJ.o rfl (by decide) B _ 0 cs rfl HO.o (.slice (some vb) 1 vc) rfl 1 vs HS.o (by unfold maxLen;omega) (by rw [gT.o];omega) HB.o ?_)
  intro v' w3 hown hgrow fR;have H1:=dL hown;have H2:=dL hgrow;have H3:=dL fR;clear hown hgrow fR;go_wp2_with fail;go_ret;exact ⟨_,rfl,H1.o,H2.o,H3.o⟩
 ·unfold maxLen at hcm
  clear hsrc gV hz0 hz1 hz2 hB hvs nG e1 hcl hO hvl hs hf hx;rcases aD n cap with hc|hc
  ·go_enter func163,ntmps163
   go_wp2_with (at_builtin;refine dW _ rfl (.tmp 23) (.tmp 24) 33 33 rfl 38 i0 (.agg #[qn,qn,false,qn,qn,yj,yj]) 7 underlying33 HI.o gx.o gJ.o rfl (by decide) B _ n cs rfl HO.o (.slice (some vb) 1 vc) rfl 1 vs HS.o (by unfold maxLen;omega) (by rw [gT.o];omega) HB.o ?_)
   intro v' w3 hown hgrow fR;have H1:=dL hown;have H2:=dL hgrow;have H3:=dL fR;clear hown hgrow fR;go_wp2_with fail;go_ret;exact ⟨_,rfl,H1.o,H2.o,H3.o⟩
  ·obtain rfl:cap=n:=by omega
   go_enter func163,ntmps163;go_wp2_with (at_builtin;refine dW _ rfl (.tmp 23) (.tmp 24) 33 33 rfl 38 i0 (.agg #[qn,qn,false,qn,qn,yj,yj]) 7 underlying33 HI.o gx.o gJ.o rfl (by decide) B _ _ cs rfl HO.o (.slice (some vb) 1 vc) rfl 1 vs HS.o (by unfold maxLen;omega) (by rw [gT.o];omega) HB.o ?_)
   intro v' w3 hown hgrow fR;have H1:=dL hown;have H2:=dL hgrow;have H3:=dL fR;clear hown hgrow fR;go_wp2_with fail;go_ret;exact ⟨_,rfl,H1.o,H2.o,H3.o⟩
theorem wv (B g cap n k:Nat) (cs vs:List Value) (vb vc:Nat) (w:World) (hO:dQ w B 7 (.slice (some g) n cap) n cs) (hm:n<=1000000) (hk:k < n) (hroom:n+1<=cap) (hvl:vs.length=7) (h1c:∀u∈cs,u.oneCell'=true) (nG:∀u∈vs,u.oneCell'=true)
  (hvs:∀j u,vs[j]? =some u->w.cell? ⟨vb,0+j,none⟩=some u) (Jj:vb≠g) (tA:TypeId) (kA:Nat) (hsa:w.shape? vb=some (tA,kA)) (hfa:w.frozen? ⟨vb,0,none⟩=false) (hfe:w.frozen? ⟨vb,kA,none⟩=false):
  Calls prog 163 #[Qs g n cap,k,Qs vb 1 vc] w (ir B w (.slice (some g) n cap) n k cs vs):=by
 obtain ⟨i0,gV,hz0,hz1,hz2⟩:=info_parts qf;have hcl:=hO.len;rcases hO.2 with ⟨h,_⟩| ⟨g',cap',he,hb,hlt,hnc,hcm,hs,hf,hx⟩
 ·cases h
 obtain ⟨rfl,rfl⟩:g=g'/\cap=cap':=by cases he;exact ⟨rfl,rfl⟩
 have abw:cap<=9223372036854775807:=by unfold maxLen at hcm;omega
 have hcs:(n+1)*7<=cap*7:=bA _ hroom;obtain ⟨u0,MW⟩:=Option.isSome_iff_exists.1 (hs 0 (by omega));obtain ⟨tB,kB,hsb,hkB⟩:=mL MW;have hsz:(prog.info? 38).map (·.size)=some 7:=by rw [gV];simp [hz1]
 have Te:∀lb cb,(callFunc 239 #[Qs vb 1 vc,.slice (some ⟨g,(k+1)*7,none⟩) lb cb]).run prog w=.ok (.value (.bool false)) w:=λlb cb=>Zu ⟨vb,0,none⟩ ⟨g,(k+1)*7,none⟩ 1 vc lb cb w Jj tA tB kA kB hsa hsb hkB hfa hfe
 have vw:(cs.drop (k*7)).length=(n - k)*7:=by rw [ah,hcl];omega
 have Ev:∀ty dc sc,(Builtin.copy_ #[33,33] ty #[.slice (some ⟨g,(k+1)*7,none⟩) (n+1 - (k+1)) dc,.slice (some ⟨g,k*7,none⟩) (n+1 - k) sc]).run prog w.drew=.ok (goInt (Nat.min (n+1 - k) (n+1 - (k+1)):Nat)) (w.drew.setCells g ((k+1)*7) (cs.drop (k*7))):=λty dc sc=>
  ep w.drew _ _ ty 38 7 g ((k+1)*7) (n+1 - (k+1)) dc ⟨g,k*7,none⟩ (n+1 - k) sc (cs.drop (k*7)) underlying33 hsz (by rw [vw];simp only [Nat.min_def];split <;> omega)
   (λj v hj=>by rw [Addr.add_lit];exact hx _ v (by rwa [List.getElem?_drop] at hj))
   (λj hj=>hs _ (by omega)) (λj hj=>hf _ (by omega)) (λv hv=>h1c v (cH hv))
 obtain ⟨W1,je⟩:=dG (w.drew.setCells g ((k+1)*7) (cs.drop (k*7)));have Ew:∀j,j < cap*7->(W1.cell? ⟨g,j,none⟩).isSome=true:=λj hj=>by
  rw [je];exact World.isSome_setCells g _ _ _ _ (hs j hj)
 have CS:∀(W:World),(∀x,W.cell? x=W1.cell? x)->(∀x,W.frozen? x=W1.frozen? x)->∀ty dc,(Builtin.copy_ #[33,33] ty #[.slice (some ⟨g,k*7,none⟩) (n+1 - k) dc,Qs vb 1 vc]).run prog W=.ok (goInt (Nat.min 1 (n+1 - k):Nat)) (W.setCells g (k*7) vs):=λW uj FF ty dc=>
  ep W _ _ ty 38 7 g (k*7) (n+1 - k) dc ⟨vb,0,none⟩ 1 vc vs underlying33 hsz (by rw [hvl];simp only [Nat.min_def];split <;> omega)
   (λj v hj=>by
    rw [Addr.add_lit,uj,je,World.cell?_setCells_out g _ _ _ _ (λh _=>absurd h Jj)];exact hvs j v hj)
   (λj hj=>by rw [uj];exact Ew _ (by omega)) (λj hj=>by rw [FF,je,World.frozen?_setCells];exact hf _ (by omega)) nG
 rw [<-je] at Ev;have dy:=su (w:=w.drew) (B:=B) hcl hvl (ag hk) hroom hb hlt hcm hs hf hx;have HF:=dL dy;have hw1:IntKind.i64.wrap ((k:Int)+1)=(k:Int)+1:=by rw [IntKind.wrap_i64];omega
 have dV:(0:Int)<=(k:Int)+1:=by omega
 have hin:k<=n:=by omega
 have htn:((k:Int)+1).toNat=k+1:=by omega
 have dY:¬ (cap=k+1):=by omega
 have dn:(k:Int)<=(n:Int)+1:=by omega
 have hb4:¬ (cap=k):=by omega
 have QF:¬ ((k:Int)=(n:Int)):=by omega
 clear dy hx hs hf Ew hvs h1c nG vw hcl MW hsb hkB gV hz0 hz1 hz2 hO he hcs hsa hfa hfe hsz hvl;clear hcm;unfold ir;go_enter func163,ntmps163;go_wp2_with (simp only [Te])
 go_region_law (refine gL rfl (.tmp 73) (.tmp 76) 33 33 rfl (.slice (some ⟨g,(k+1)*7,none⟩) (n+1 - (k+1)) (cap - (k+1))) (.slice (some ⟨g,k*7,none⟩) (n+1 - k) (cap - k)) (by simp [Act.eval,Act.put]) (by simp [Act.eval,Act.put]) (Ev _ _ _) ?_)
 go_wp2_with (at_builtin;refine ew _ rfl _ _ 33 33 rfl _ _ rfl rfl (CS _ (λ_=>rfl) (λ_=>rfl) _ _) ?_)
 go_ret;exact ⟨_,rfl,HF.o.1,⟨HF.o.2.os,HF.o.2.tape,HF.o.2.output,HF.o.2.size,HF.o.2.block⟩,.inl rfl⟩
theorem zG (B g cap n k:Nat) (cs vs:List Value) (vb vc:Nat) (w:World) (hO:dQ w B 7 (.slice (some g) n cap) n cs) (hm:n<=1000000) (hk:k < n) (hroom:cap < n+1) (hvl:vs.length=7) (h1c:∀u∈cs,u.oneCell'=true) (nG:∀u∈vs,u.oneCell'=true)
  (hvs:∀j u,vs[j]? =some u->w.cell? ⟨vb,0+j,none⟩=some u) (hB:B<=w.heap.size):
  Calls prog 163 #[Qs g n cap,k,Qs vb 1 vc] w (ir B w (.slice (some g) n cap) n k cs vs):=by
 obtain ⟨i0,gV,hz0,hz1,hz2⟩:=info_parts qf;have hcl:=hO.len;rcases hO.2 with ⟨h,_⟩| ⟨g',cap',he,hb,hlt,hnc,hcm,hs,hf,hx⟩
 ·cases h
 obtain ⟨rfl,rfl⟩:g=g'/\cap=cap':=by cases he;exact ⟨rfl,rfl⟩
 obtain rfl:n=cap:=by omega
 have hsz:(prog.info? 38).map (·.size)=some 7:=by rw [gV];simp [hz1]
 have hvw:vb < w.heap.size:=eB (hvs 0 _ (bh (by omega)));have hkk:(n:Int)+1 - (k:Int)=((n+1 - k:Nat):Int):=by omega
 have hik:k+(n+1 - k)=n+1:=by omega
 have hkl:k*7<=n*7:=bA _ (by omega);have htl:(cs.take (k*7)).length=k*7:=by rw [aR,hcl];omega
 have hold:(Builtin.firstCells i0.size k (.slice (some g) k n)).run prog w.drew=.ok (cs.take (k*7)).toArray w.drew:=by
  rw [hz1];exact run_firstCells_some w.drew 7 k ⟨g,0,none⟩ k n (cs.take (k*7)) htl (λj v hj=>by
   rw [Addr.add_lit];rw [List.getElem?_take] at hj;split at hj
   ·rw [aV];exact hx j v hj
   ·cases hj)
 have JV:∀ty,(Builtin.append_ #[33,3] ty #[Qs g k n,.int .i64 ((n:Int)+1 - (k:Int))]).run prog w=
   .ok (.slice (some w) (n+1) (grownCap w (n+1) n 38)) (w.drew.alloc (.cells ((cs.take (k*7)).toArray++Builtin.zeroCells (.agg #[qn,qn,false,qn,qn,yj,yj]:Value).cells (n+1 - k)++Builtin.zeroCells (.agg #[qn,qn,false,qn,qn,yj,yj]:Value).cells (grownCap w (n+1) n 38 - (n+1))) 38)):=λty=>by
  have h:=Lib.run_append_grow_zeros w 33 3 ty 38 i0 _ .i64 .i64 underlying33 underlying3 gV hz0 (some ⟨g,0,none⟩) k n (cs.take (k*7)) hold (n+1 - k) (by omega) (by omega) (by omega) (by omega) (by rw [hz2];omega) (by rw [hz2,hik];exact growslice_fits (by omega) (by omega));rw [hik] at h;rw [hkk];exact h
 obtain ⟨G,hG⟩:=dG (grownCap w (n+1) n 38);obtain ⟨iZ,sX⟩:∃iZ:Array Value,iZ=(cs.take (k*7)).toArray++Builtin.zeroCells (.agg #[qn,qn,false,qn,qn,yj,yj]:Value).cells (n+1 - k)++Builtin.zeroCells (.agg #[qn,qn,false,qn,qn,yj,yj]:Value).cells (G - (n+1)):=⟨_,rfl⟩;rw [<-hG] at JV;rw [<-sX] at JV;have VG:n+1<=G:=by rw [hG];exact grownCap_ge w _ _ _
 have QG:G<=maxLen:=by rw [hG];exact grownCap_le_maxLen w (n+1) n 38 (by unfold maxLen;omega)
 have abx:G<=9223372036854775807:=by unfold maxLen at QG;omega
 have hzl:(.agg #[qn,qn,false,qn,qn,yj,yj]:Value).cells.size=7:=rfl;have QH:iZ.size=G*7:=by
  rw [sX];simp only [Array.size_append,bW,size_zeroCells,hzl,htl];omega
 have VH:∀j u,j < k*7->cs[j]? =some u->iZ[j]? =some u:=λj u hj hu=>by
  rw [sX,Array.append_assoc,Array.getElem?_append_left (by rw [bW,htl];exact hj)];simpa [bf hj] using hu
 obtain ⟨W1,je⟩:=dG (w.drew.alloc (.cells iZ 38));rw [<-je] at JV;have MU:∀j,W1.cell? ⟨w.heap.size,j,none⟩=iZ[j]?:=λj=>by rw [je];exact World.cell?_alloc_at (w:=w.drew) iZ _ w j rfl
 have hN:∀j,j < G*7->(W1.cell? ⟨w.heap.size,j,none⟩).isSome=true:=λj hj=>by
  rw [MU,cG (by omega)];rfl
 have JW:∀j,W1.frozen? ⟨w.heap.size,j,none⟩=false:=λj=>by rw [je];exact World.frozen?_alloc_at (w:=w.drew) iZ _ w j rfl
 have VJ:∀j v,w.cell? ⟨g,j,none⟩=some v->W1.cell? ⟨g,j,none⟩=some v:=λj v h=>by rw [je,dB (w:=w.drew) _ g j hlt];exact h
 have VK:∀j v,w.cell? ⟨vb,j,none⟩=some v->W1.cell? ⟨vb,j,none⟩=some v:=λj v h=>by rw [je,dB (w:=w.drew) _ vb j hvw];exact h
 have hk1:(k+1)*7=k*7+7:=Nat.succ_mul _ _;have hcs:(n+1)*7<=G*7:=bA _ VG;have QI:∀(W:World),(∀x,W.cell? x=W1.cell? x)->(∀x,W.frozen? x=W1.frozen? x)->∀ty dc,(Builtin.copy_ #[33,33] ty #[.slice (some ⟨w.heap.size,k*7,none⟩) (n+1 - k) dc,Qs vb 1 vc]).run prog W=.ok (goInt (Nat.min 1 (n+1 - k):Nat)) (W.setCells w (k*7) vs):=λW uj FF ty dc=>
  ep W _ _ ty 38 7 w (k*7) (n+1 - k) dc ⟨vb,0,none⟩ 1 vc vs underlying33 hsz (by rw [hvl];simp only [Nat.min_def];split <;> omega)
   (λj v hj=>by rw [Addr.add_lit,uj];exact VK _ v (hvs j v hj))
   (λj hj=>by rw [uj];exact hN _ (by omega)) (λj hj=>by rw [FF];exact JW _) nG
 have hGi:¬ (G=k):=by omega
 have aby:¬ (G=k+1):=by omega
 have sN:¬ (n=k):=by omega
 have QJ:g≠w.heap.size:=by omega
 have vw:(cs.drop (k*7)).length=(n - k)*7:=by rw [ah,hcl];omega
 have Ex:∀(W:World),(∀x,W.cell? x=(W1.setCells w (k*7) vs).cell? x)->(∀x,W.frozen? x=(W1.setCells w (k*7) vs).frozen? x)->∀ty dc sc,(Builtin.copy_ #[33,33] ty #[.slice (some ⟨w.heap.size,(k+1)*7,none⟩) (n+1 - (k+1)) dc,.slice (some ⟨g,k*7,none⟩) (n - k) sc]).run prog W=.ok (goInt (Nat.min (n - k) (n+1 - (k+1)):Nat)) (W.setCells w ((k+1)*7) (cs.drop (k*7))):=λW uj FF ty dc sc=>
  ep W _ _ ty 38 7 w ((k+1)*7) (n+1 - (k+1)) dc ⟨g,k*7,none⟩ (n - k) sc (cs.drop (k*7)) underlying33 hsz (by rw [vw];simp only [Nat.min_def];split <;> omega)
   (λj v hj=>by
    rw [Addr.add_lit,uj,World.cell?_setCells_out _ _ _ _ _ (λh _=>absurd h QJ)];exact VJ _ v (hx _ v (by rwa [List.getElem?_drop] at hj)))
   (λj hj=>by rw [uj];exact World.isSome_setCells _ _ _ _ _ (hN _ (by omega)))
   (λj hj=>by rw [FF,World.frozen?_setCells];exact JW _) (λv hv=>h1c v (cH hv))
 have dy:=sw (W:=W1) (B:=B) (g:=w.heap.size) hcl hvl (ag hk) VG hB (by rw [je];exact (by simp:w.heap.size < (w.drew.alloc (.cells iZ 38)).heap.size)) QG hN (λj _=>JW j) (λj u hj hu=>by rw [MU];exact VH j u hj hu);have hgb:w.grownBy ((W1.setCells w (k*7) vs).setCells w ((k+1)*7) (cs.drop (k*7))) (some g):=by
  have h1:Below w w W1:=by rw [je];exact ((aC w w).drew).alloc (aB _) _
  exact fC (h1.trans ⟨dy.2.os,dy.2.tape,dy.2.output,dy.2.size,λi hi=>dy.2.block i (aN hi h1.size) (λe=>by cases e;omega)⟩) _
 have HF:dK (dQ (((w.alloc (.cells iZ 38)).drew.setCells w (k*7) vs).drew.setCells w ((k+1)*7) (cs.drop (k*7))) B 7 (.slice (some w) (n+1) G) (n+1) (cs.take (k*7)++(vs++cs.drop (k*7)))/\
   w.grownBy (((w.alloc (.cells iZ 38)).drew.setCells w (k*7) vs).drew.setCells w ((k+1)*7) (cs.drop (k*7))) (some g)):=by
  have he:(((w.alloc (.cells iZ 38)).drew.setCells w (k*7) vs).drew.setCells w ((k+1)*7) (cs.drop (k*7))).heap=((W1.setCells w (k*7) vs).setCells w ((k+1)*7) (cs.drop (k*7))).heap:=
   fA _ _ _ _ _ (fA _ _ _ (w.alloc (.cells iZ 38)).drew _ (by rw [je];rfl))
  refine show _/\_ from ⟨dy.1.heap_eq he,⟨?_,?_,?_,by rw [he];exact hgb.size,λi hi hne=>by rw [he];exact hgb.block i hi hne⟩⟩
  ·rw [fu];exact fu _ _ _ _
  ·rw [eS];exact eS _ _ _ _
  ·rw [fV];exact fV _ _ _ _
 subst je;have ZA:∀x,((w.alloc (.cells iZ 38)).drew).cell? x=(w.drew.alloc (.cells iZ 38)).cell? x:=λx=>rfl
 have ZB:∀x,((w.alloc (.cells iZ 38)).drew).frozen? x=(w.drew.alloc (.cells iZ 38)).frozen? x:=λx=>rfl
 have hF1:∀x,(((w.alloc (.cells iZ 38)).drew.setCells w (k*7) vs).drew).cell? x=((w.drew.alloc (.cells iZ 38)).setCells w (k*7) vs).cell? x:=λx=>rfl
 have hF2:∀x,(((w.alloc (.cells iZ 38)).drew.setCells w (k*7) vs).drew).frozen? x=((w.drew.alloc (.cells iZ 38)).setCells w (k*7) vs).frozen? x:=λx=>rfl
 have hw1:IntKind.i64.wrap ((k:Int)+1)=(k:Int)+1:=by rw [IntKind.wrap_i64];omega
 have dV:(0:Int)<=(k:Int)+1:=by omega
 have hin:k<=n:=by omega
 have htn:((k:Int)+1).toNat=k+1:=by omega
 have dn:(k:Int)<=(n:Int):=by omega
 have QF:¬ ((k:Int)=(n:Int)):=by omega
 clear hkk hik hold sX hG QH VH MU hN JW VJ VK hx hs hf dy hgb vw hcs hk1 htl hkl hvs h1c nG hO he gV hz0 hz1 hz2 hsz hcl hvl QG hcm hzl;unfold ir;go_enter func163,ntmps163;go_wp2_with (first
  |(at_builtin;refine Lib.wpList_append_run _ rfl _ _ _ _ rfl _ _ rfl rfl _ _ (JV _) ?_)
  |(at_builtin;refine ew _ rfl _ _ 33 33 rfl _ _ rfl rfl (QI _ ZA ZB _ _) ?_)
  |(at_builtin;refine ew _ rfl _ _ 33 33 rfl _ _ rfl rfl (Ex _ (λ_=>rfl) (λ_=>rfl) _ _ _) ?_))
 go_region_law (refine gL rfl _ _ 33 33 rfl (.slice (some ⟨w.heap.size,(k+1)*7,none⟩) (n+1 - (k+1)) (G - (k+1))) (.slice (some ⟨g,k*7,none⟩) (n - k) (n - k)) (by simp [Act.eval,Act.put]) (by simp [Act.eval,Act.put]) (Ex _ hF1 hF2 3 (G - (k+1)) (n - k)) ?_)
 go_wp2;go_ret;exact ⟨_,rfl,HF.o.1,⟨HF.o.2.os,HF.o.2.tape,HF.o.2.output,HF.o.2.size,HF.o.2.block⟩,.inr rfl⟩
theorem kR (B:Nat) (v:Value) (n k:Nat) (cs vs:List Value) (vb vc:Nat) (w:World) (hO:dQ w B 7 v n cs) (hm:n<=1000000) (hk:k<=n) (hvl:vs.length=7) (h1c:∀u∈cs,u.oneCell'=true) (nG:∀u∈vs,u.oneCell'=true)
  (hV:Blk w vb 38 vs.toArray) (Jj:v.ownBlock≠some vb) (hB:B<=w.heap.size):
  Calls prog 163 #[v,k,Qs vb 1 vc] w (ir B w v n k cs vs):=by
 have hvs:∀j u,vs[j]? =some u->w.cell? ⟨vb,0+j,none⟩=some u:=λj u hu=>by rw [aV,hV.cell];simpa using hu
 rcases aD k n with hlt|hge
 ·have MV:=hO
  rcases hO.2 with ⟨rfl,rfl⟩| ⟨g,cap,rfl,hb,hlt2,hnc,hcm,hs,hf,hx⟩
  ·omega
  have hne:vb≠g:=λe=>Jj (by rw [e];rfl)
  rcases aD n cap with hc|hc
  ·exact wv B g cap n k cs vs vb vc w MV hm hlt hc hvl h1c nG hvs hne _ _ hV.shape (hV.frozen 0) (hV.frozen _)
  ·exact zG B g cap n k cs vs vb vc w MV hm hlt (by omega) hvl h1c nG hvs hB
 ·obtain rfl:k=n:=by omega
  exact BV B v k cs vs vb vc w hO hm hvl nG hvs hB
theorem NQ (xs:List Nd) (k:Nat):jU (xs.take k)=(jU xs).take (k*7):=by
 rcases aD k xs.length with h|h
 ·have e:jU xs=jU (xs.take k)++jU (xs.drop k):=by rw [<-l9,bV]
  rw [e,List.take_left' (by rw [ia,aR];congr 1;omega)]
 ·rw [af h,af (by rw [ia];omega)]
theorem NR (xs:List Nd) (k:Nat):jU (xs.drop k)=(jU xs).drop (k*7):=by
 rcases aD k xs.length with h|h
 ·have e:jU xs=jU (xs.take k)++jU (xs.drop k):=by rw [<-l9,bV]
  rw [e,List.drop_left' (by rw [ia,aR];congr 1;omega)]
 ·rw [cw h,cw (by rw [ia];omega)];rfl
theorem Fv (xs:List Nd) (y:Nd) (k:Nat):jU (xs.take k++y :: xs.drop k)=(jU xs).take (k*7)++(nc y++(jU xs).drop (k*7)):=by
 rw [l9,<-NQ];congr 1;rw [<-NR];simp [jU]
variable {v:Value} {xs:List Nd}
theorem kS {B n k:Nat} {y:Nd} (hn:xs.length=n) (hk:k<=n) (h:dQ w B 7 v (n+1) ((jU xs).take (k*7)++(nc y++(jU xs).drop (k*7)))):Own w B v (xs.take k++y :: xs.drop k):=by
 unfold Own;rw [Fv];have:(xs.take k++y :: xs.drop k).length=n+1:=by simp;omega
 rw [this];exact h
theorem BW {y:Nd} (h:Short xs) (hy:y.nm.length<=9223372036854775807/\y.mf.length<=9223372036854775807) (k:Nat):Short (xs.take k++y :: xs.drop k):=by
 intro x hx;rcases aq.1 hx with hx|hx
 ·exact h x (cS hx)
 ·rcases aQ.1 hx with rfl|hx
  ·exact hy
  ·exact h x (cH hx)
structure jN (B:Nat) (w w':World) (S:Nat) (v:Value) (xs:List Nd):Prop where
 own0:Own w' S v xs
 below:Below B w w'
 le:B<=w'.heap.size
 leS:B<=S
theorem jN.own{B S:Nat} (h:jN B w w' S v xs):Own w' B v xs:=h.own0.mono h.leS
theorem jN.ne_new{B S:Nat} (h:jN B w w' S v xs):v.ownBlock≠some w'.heap.size:=λe=>by
 have:=(h.own0.ge _ e).2;omega
theorem jN.ne_at{B S:Nat} (h:jN B w w' S v xs) {q:Nat} (hq:q < S):v.ownBlock≠some q:=λe=>by
 have:=(h.own0.ge _ e).1;omega
theorem jN.fin{B S:Nat} (h:jN B w w' S v xs) (hg:w'.grownBy w4 v.ownBlock):Below B w w4:=iD h.below h.leS h.le h.own0 hg
theorem jN.fin_alloc{B S:Nat} {o:Obj} (h:jN B w w' S v xs) (hg:(w'.alloc o).grownBy w4 v.ownBlock):Below B w w4:=
 iD (h.below.alloc h.le o) h.leS (aI h.le (by simp)) (h.own0.alloc o) hg
theorem AB (y:Nd) (A:Option Addr) (n c:Nat) (xs:List Nd) (w:World) (hx:lu w A n c xs) (hm:n<=100000):
  Calls prog 109 #[Qq A n c,nv y] w λe w'=>∃v,e=.returned v/\Own w' w v (gI xs y)/\Below w w w':=by
 have hn:=hx.len;have lg:=hx.max;have hle:=hx.le;have dV:=dH w (.cells (nc y).toArray 38);have hB:=Blk.new w 38 (nc y).toArray;have hx1:=hx.below dV;obtain ⟨w1,hw1⟩:=dG (w.alloc (.cells (nc y).toArray 38));rw [<-hw1] at hB dV hx1;have HI:=dL (Fk w y A n c xs w1 hx1 hB);have HW:=dL (show w1=w.alloc (.cells #[y.id.1,y.id.2,y.dir,y.par.1,y.par.2,y.nm,y.mf] 38) from hw1);have HX:=dL hx1;have HB:=dL dV;have mK:=dL hB;obtain ⟨B,uo⟩:=dG w.heap.size;rw [<-uo] at HI HB mK;have rG:=dL uo;have hsz:B<=w1.heap.size:=by rw [uo];exact dV.size
 have zV:=dL hsz;clear hw1 hx1 dV hB hx hsz;rw [<-uo];clear uo;unfold nv;unfold gI;rcases gZ (λz=>di y.id z.id) xs with ⟨k,hk,iU,hp⟩| ⟨iU,hall⟩
 all_goals (have fR:=K6 xs y.id;rw [iU] at HI fR)
 ·have QD:decide ((k:Int) < 0)=false:=decide_eq_false (by omega)
  have hke:rF xs y.id=k:=by rw [if_neg (by omega)] at fR;omega
  rw [hke];have hkn:k<=n:=by omega
  clear fR hke iU hp hk;go_enter func109,ntmps109;go_wp2_with fail;rw [<-HW.o,<-rG.o];refine HI.o.mono ?_;rintro e w2 ⟨rfl,dY⟩;have eA:=dL (HB.o.trans (dY.mono zV.o));have HQ:=dL (Blk.below mK.o dY (Blk.lt mK.o));have nB:=dL (HX.o.below dY);have yR:=aI zV.o dY.size;have iz:=dL yR;clear dY yR;go_wp2_with fail;have HL:=dL (show xs.length<=1000000 by omega);have HN:=dL (show n<=1000000 by omega);have yw:=dL (show k<=xs.length by omega);clear hm hn lg hle hkn;go_region_held3 (λw'=>w'.cell? B=y.id.1/\w'.cell? (Qc B 1)=y.id.2/\w'.cell? (Qc B 2)=y.dir/\w'.cell? (Qc B 3)=y.par.1/\w'.cell? (Qc B 4)=y.par.2/\w'.cell? (Qc B 5)=y.nm/\w'.cell? (Qc B 6)=y.mf)
   (with_reducible first|exact eW B9.o|exact eW nC.o|exact eW (Blk.alloc nC.o _)|exact eW (Blk.drew HQ.o)|exact eW (Blk.drew (Blk.alloc HQ.o _))|exact eW (Blk.alloc (Blk.drew HQ.o) _)|exact eW (Blk.alloc HQ.o _)|exact eW HQ.o)
   (first
    |(go_at_call 111;refine (j9 A n c xs _ (nB.o.below (aC _ _).drew) HN.o).mono ?_;rintro e w3 ⟨v,rfl,oM,dn⟩;obtain ⟨A3,c3,rfl⟩:=dQ.isSlice oM;have nC:=dL (Blk.below (Blk.drew HQ.o) dn (Blk.lt HQ.o));have HC:=dL (jN.mk (B:=B) (w:=w) oM (eA.o.drew.trans (dn.mono iz.o)) (aI iz.o dn.size) iz.o);have Hv:=dL (Blk.lt HQ.o);clear oM dn)
    |(go_at_call 111;refine (j9 A n c xs _ (nB.o.below ((aC _ _).alloc (aB _) _).drew) HN.o).mono ?_;rintro e w3 ⟨v,rfl,oM,dn⟩;obtain ⟨A3,c3,rfl⟩:=dQ.isSlice oM;have nC:=dL (Blk.below (Blk.drew (Blk.alloc HQ.o _)) dn (aN (Blk.lt HQ.o) (by simp)));have HC:=dL (jN.mk (B:=B) (w:=w) oM ((eA.o.alloc iz.o _).drew.trans (dn.mono (aI iz.o (by simp)))) (aI iz.o (aI (by simp) dn.size)) (aI iz.o (by simp)));have HV:=dL (Blk.below (Blk.drew (Blk.new w2 38 (nc y).toArray)) dn (by simp));have Hv:=dL (aN (Blk.lt HQ.o) (by simp:w2.heap.size<=(w2.alloc (.cells (nc y).toArray 38)).drew.heap.size));clear oM dn)
    |(go_at_call 163;refine (kR B _ xs.length k (jU xs) (nc y) _ 1 _ HC.o.own HL.o yw.o rfl (rO xs) (oU y) HV.o (HC.o.ne_at (by simp)) HC.o.le).mono ?_;rintro e w4 ⟨v4,rfl,nJ,hg4,_⟩;have B9:=dL (Blk.grown nC.o hg4 (λe=>HC.o.ne_at Hv.o e.symm));have HF:=dL (And.intro (kS rfl yw.o nJ) (HC.o.fin hg4));clear nJ hg4)
    |(go_at_call 163;refine (kR B _ xs.length k (jU xs) (nc y) _ 1 _ (HC.o.own.alloc _) HL.o yw.o rfl (rO xs) (oU y) (Blk.new _ 38 (nc y).toArray) HC.o.ne_new (aI HC.o.le (by simp))).mono ?_;rintro e w4 ⟨v4,rfl,nJ,hg4,_⟩;have B9:=dL (Blk.grown (Blk.alloc nC.o _) hg4 (λe=>HC.o.ne_at Hv.o e.symm));have HF:=dL (And.intro (kS rfl yw.o nJ) (HC.o.fin_alloc hg4));clear nJ hg4))
  all_goals (go_wp2_with fail;go_ret;exact ⟨_,rfl,HF.o⟩)
 ·have QD:decide ((-1:Int) < 0)=true:=by decide
  have hke:rF xs y.id=n:=by rw [if_pos (by omega)] at fR;omega
  rw [hke];clear fR hke iU hall;go_enter func109,ntmps109;go_wp2_with fail;rw [<-HW.o,<-rG.o];refine HI.o.mono ?_;rintro e w2 ⟨rfl,dY⟩;have eA:=dL (HB.o.trans (dY.mono zV.o));have HQ:=dL (Blk.below mK.o dY (Blk.lt mK.o));have nB:=dL (HX.o.below dY);have yR:=aI zV.o dY.size;have iz:=dL yR;clear dY yR;go_wp2_with fail;have HL:=dL (show xs.length<=1000000 by omega);have HN:=dL (show n<=1000000 by omega);have yw:=dL (show n<=xs.length by omega);clear hm hn lg hle;go_region_held3 (λw'=>w'.cell? B=y.id.1/\w'.cell? (Qc B 1)=y.id.2/\w'.cell? (Qc B 2)=y.dir/\w'.cell? (Qc B 3)=y.par.1/\w'.cell? (Qc B 4)=y.par.2/\w'.cell? (Qc B 5)=y.nm/\w'.cell? (Qc B 6)=y.mf)
   (with_reducible first|exact eW B9.o|exact eW nC.o|exact eW (Blk.alloc nC.o _)|exact eW (Blk.drew HQ.o)|exact eW (Blk.drew (Blk.alloc HQ.o _))|exact eW (Blk.alloc (Blk.drew HQ.o) _)|exact eW (Blk.alloc HQ.o _)|exact eW HQ.o)
   (first
    |(go_at_call 111;refine (j9 A n c xs _ (nB.o.below (aC _ _).drew) HN.o).mono ?_;rintro e w3 ⟨v,rfl,oM,dn⟩;obtain ⟨A3,c3,rfl⟩:=dQ.isSlice oM;have nC:=dL (Blk.below (Blk.drew HQ.o) dn (Blk.lt HQ.o));have HC:=dL (jN.mk (B:=B) (w:=w) oM (eA.o.drew.trans (dn.mono iz.o)) (aI iz.o dn.size) iz.o);have Hv:=dL (Blk.lt HQ.o);clear oM dn)
    |(go_at_call 111;refine (j9 A n c xs _ (nB.o.below ((aC _ _).alloc (aB _) _).drew) HN.o).mono ?_;rintro e w3 ⟨v,rfl,oM,dn⟩;obtain ⟨A3,c3,rfl⟩:=dQ.isSlice oM;have nC:=dL (Blk.below (Blk.drew (Blk.alloc HQ.o _)) dn (aN (Blk.lt HQ.o) (by simp)));have HC:=dL (jN.mk (B:=B) (w:=w) oM ((eA.o.alloc iz.o _).drew.trans (dn.mono (aI iz.o (by simp)))) (aI iz.o (aI (by simp) dn.size)) (aI iz.o (by simp)));have HV:=dL (Blk.below (Blk.drew (Blk.new w2 38 (nc y).toArray)) dn (by simp));have Hv:=dL (aN (Blk.lt HQ.o) (by simp:w2.heap.size<=(w2.alloc (.cells (nc y).toArray 38)).drew.heap.size));clear oM dn)
    |(go_at_call 163;refine (kR B _ xs.length n (jU xs) (nc y) _ 1 _ HC.o.own HL.o yw.o rfl (rO xs) (oU y) HV.o (HC.o.ne_at (by simp)) HC.o.le).mono ?_;rintro e w4 ⟨v4,rfl,nJ,hg4,_⟩;have B9:=dL (Blk.grown nC.o hg4 (λe=>HC.o.ne_at Hv.o e.symm));have HF:=dL (And.intro (kS rfl yw.o nJ) (HC.o.fin hg4));clear nJ hg4)
    |(go_at_call 163;refine (kR B _ xs.length n (jU xs) (nc y) _ 1 _ (HC.o.own.alloc _) HL.o yw.o rfl (rO xs) (oU y) (Blk.new _ 38 (nc y).toArray) HC.o.ne_new (aI HC.o.le (by simp))).mono ?_;rintro e w4 ⟨v4,rfl,nJ,hg4,_⟩;have B9:=dL (Blk.grown (Blk.alloc nC.o _) hg4 (λe=>HC.o.ne_at Hv.o e.symm));have HF:=dL (And.intro (kS rfl yw.o nJ) (HC.o.fin_alloc hg4));clear nJ hg4))
  all_goals (go_wp2_with fail;go_ret;exact ⟨_,rfl,HF.o⟩)
end
end Go.Proofs.YtgdaahffmcfhpaaGreatDoor
