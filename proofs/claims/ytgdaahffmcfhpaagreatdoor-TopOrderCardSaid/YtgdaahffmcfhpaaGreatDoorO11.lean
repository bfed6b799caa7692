/- Lemmas on the way: Ms Un. -/
import Derived.Test.YtgdaahffmcfhpaaGreatDoorO08
import Derived.Test.YtgdaahffmcfhpaaGreatDoorO10
set_option linter.unusedVariables false
set_option maxRecDepth 100000
set_option maxHeartbeats 8000000
namespace Go.Proofs.YtgdaahffmcfhpaaGreatDoor
open aA
open Tryz
namespace Ms
open Go.RowKit
section
variable {K:Type} [DecidableEq K] {P:Program} {kv:K->Value} {mt kt et:TypeId} {z:Value}
def fq (kv:K->Value) (e:K×Value×Nat):MapEntry:={ key:=kv e.1,val:=e.2.1,born:=e.2.2 }
def place (ms:List (K×Value×Nat)) (k:K):Option (Nat×(K×Value×Nat)):=
 match ms with
 | []=>none
 |e :: r=>if k=e.1 then some (0,e) else (place r k).map λp=>(p.1+1,p.2)
def get (ms:List (K×Value×Nat)) (k:K):Option Value:=(place ms k).map (·.2.2.1)
variable {ms:List (K×Value×Nat)} {k:K} {i b:Nat}
theorem kz {e:K×Value×Nat} (h:place ms k=some (i,e)):ms[i]? =some e/\e.1=k:=by
 induction ms generalizing i with
 |nil=>cases h
 |cons a r ih=>
  unfold place at h;by_cases c:k=a.1
  ·rw [if_pos c] at h;cases h;exact ⟨rfl,c.symm⟩
  ·rw [if_neg c] at h
   cases hp:place r k with
   |none=>rw [hp] at h;cases h
   |some p=>
    rw [hp] at h;cases h;exact ih hp
structure MapTy {K:Type} [DecidableEq K] (P:Program) (kv:K->Value) (mt kt et:TypeId) (z:Value):Prop where
 map_:P.underlying mt=some (.map kt et)
 zero:∀w,(zeroValue et).run P w=.ok z w
 find:∀(k:K) (w:World) (ms:List (K×Value×Nat)),(Instr.findKey kt (kv k) (ms.map (fq kv))).run P w=.ok ((place ms k).map λp=>(p.1,p.2.2.1)) w
 check:∀(e:Bool) (a:K) (w:World),(Instr.checkKey e 10000 kt (kv a)).run P w=.ok () w
 bits:∀a:K,Instr.sameBits 10000 (kv a) (kv a)=true
theorem finding (M:MapTy P kv mt kt et z) (k:K) (w:World) (ms:List (K×Value×Nat)):
  (Instr.findKey kt (kv k) (ms.map (fq kv))).run P w=.ok ((place ms k).map λp=>(p.1,p.2.2.1)) w:=M.find k w ms
def MapF (kv:K->Value) (w:World) (b:Nat) (f:K->Option Value):Prop:=
 ∃(ms:List (K×Value×Nat)) (clock:Nat),w.heap[b]? =some (.map (ms.map (fq kv)).toArray clock)/\(ms.map (·.2.2)).Nodup/\(∀e∈ms,e.2.2 < clock)/\∀k,get ms k=f k
theorem MapF.new (w:World):MapF kv (w.alloc (.map #[] 0)) w (λ_=>none):=⟨[],0,heap_alloc_new w _,List.Pairwise.nil,by simp,λ_=>rfl⟩
variable {w w':World}
theorem MapF.lt {f:K->Option Value} (h:MapF kv w b f):b < w.heap.size:=by
 obtain ⟨ms,c,hb,_⟩:=h;rcases aD b w with hlt|hge
 ·exact hlt
 ·rw [ax hge] at hb;cases hb
theorem MapF.heap {f:K->Option Value} (h:MapF kv w b f) (hb:w'.heap[b]? =w.heap[b]?):MapF kv w' b f:=by
 obtain ⟨ms,c,h1,rest⟩:=h;exact ⟨ms,c,hb.trans h1,rest⟩
theorem MapF.below {f:K->Option Value} (h:MapF kv w b f) (hb:Below w w w'):MapF kv w' b f:=h.heap (hb.block b h.lt)
theorem MapF.look(M:MapTy P kv mt kt et z) {f:K->Option Value} (h:MapF kv w b f) (k:K):
  (Instr.lookup mt (.map (some b)) (kv k) false).run P w=.ok ((f k).getD z) w:=by
 obtain ⟨ms,c,hb,_,_,hf⟩:=h;have mS:=finding M k w ms;simp only [Instr.lookup,Sem.run_bind,run_underlying M.map_,Go.MapKept.run_getObj_map hb,Sem.run_pure,Result.andThen_ok,M.check,mS];rw [<-hf k];unfold get;cases place ms k with
 |none=>simp [M.zero]
 |some p=>simp
def setAt (ms:List (K×Value×Nat)) (i:Nat) (v:Value):List (K×Value×Nat):=ms.modify i λe=>(e.1,v,e.2.2)
theorem mV {e:K×Value×Nat} (h:place ms k=some (i,e)) (v:Value) (k':K):get (setAt ms i v) k'=if k'=k then some v else get ms k':=by
 induction ms generalizing i with
 |nil=>cases h
 |cons a r ih=>
  unfold place at h;by_cases c:k=a.1
  ·rw [if_pos c] at h;cases h
   simp only [setAt,List.modify_zero_cons,get,place];by_cases c':k'=k
   ·rw [if_pos c',if_pos (c'.trans c)];rfl
   ·rw [if_neg c',if_neg (λh=>c' (h.trans c.symm)),if_neg (λh=>c' (h.trans c.symm))]
  ·rw [if_neg c] at h
   cases hp:place r k with
   |none=>rw [hp] at h;cases h
   |some p=>
    rw [hp] at h;cases h;have:=ih hp;simp only [setAt,List.modify_succ_cons,get,place] at this ⊢;by_cases c':k'=a.1
    ·rw [if_pos c',if_pos c',if_neg (λh=>c (h.symm.trans c'))]
    ·rw [if_neg c',if_neg c']
     simpa [Option.map_map,Function.comp_def] using this
theorem l6 (h:place ms k=none) (v:Value) (n:Nat) (k':K):get (ms++[(k,v,n)]) k'=if k'=k then some v else get ms k':=by
 induction ms with
 |nil=>
  simp only [get,ak,place];by_cases c':k'=k <;> simp [c']
 |cons a r ih=>
  unfold place at h;by_cases c:k=a.1
  ·rw [if_pos c] at h;cases h
  ·rw [if_neg c] at h
   have hp:place r k=none:=by
    cases hp:place r k with
    |none=>rfl
    |some p=>rw [hp] at h;cases h
   have:=ih hp;simp only [get,bC,place] at this ⊢;by_cases c':k'=a.1
   ·rw [if_pos c',if_pos c',if_neg (λh=>c (h.symm.trans c'))]
   ·rw [if_neg c',if_neg c']
    simpa [Option.map_map,Function.comp_def] using this
omit [DecidableEq K] in
theorem BH (hn:(ms.map (·.2.2)).Nodup) {e:K×Value×Nat} (he:ms[i]? =some e):
  ((ms.map (fq kv)).toArray.findIdx? λx=>((x.born:Nat):Int) ==(e.2.2:Int))=some i:=by
 rw [List.findIdx?_toArray,au];obtain ⟨hi,rfl⟩:=cR.1 he;refine ⟨by simpa using hi,by simp [fq],λj hj=>?_⟩;have hj':j < ms.length:=by omega
 simp only [List.getElem_map,fq];intro hc;have yq:ms[j].2.2=ms[i].2.2:=by
  have h1:((ms[j].2.2:Nat):Int)=((ms[i].2.2:Nat):Int):=by simpa using hc
  exact Int.ofNat_inj.1 h1
 exact dF.1 hn j i (by simpa using hj') (by simpa using hi) hj (by simpa using yq)
theorem set_obj (o:Obj) {es:Array MapEntry} {c:Nat} (hb:w.heap[b]? =some (.map es c)):∃w',(setObj b o).run P w=.ok () w'/\w'.heap[b]? =some o/\w.grownBy w' (some b)/\w'.heap.size=w.heap.size:=
 ⟨_,Go.MapKept.run_setObj_map o hb,(Go.MapKept.heap_set hb).1,⟨rfl,rfl,rfl,by simp,λi _ hne=>(Go.MapKept.heap_set hb).2 i (λe=>hne (by rw [e]))⟩,by simp⟩
omit [DecidableEq K] in
theorem gY (ms:List (K×Value×Nat)) (i:Nat) (v:Value):(setAt ms i v).map (·.2.2)=ms.map (·.2.2):=by
 apply List.ext_getElem?;intro j;simp only [setAt,cL,List.getElem?_modify];by_cases c:i=j
 ·subst c;cases ms[i]? <;> simp
 ·cases ms[j]? <;> simp [c]
theorem jv {c:Nat} (hb:w.heap[b]? =some (.map (ms.map (fq kv)).toArray c)) (hnd:(ms.map (·.2.2)).Nodup) (hlt:∀e∈ms,e.2.2 < c) {e:K×Value×Nat} (hp:place ms k=some (i,e)) (mt:TypeId) (val:Value):
  ∃w2,(Instr.entryStore mt (.map (some b)) (.int .i64 (e.2.2:Nat)) val).run P w=.ok () w2/\MapF kv w2 b (λk'=>if k'=k then some val else get ms k')/\w.grownBy w2 (some b)/\w2.heap.size=w.heap.size:=by
 obtain ⟨hi,ML⟩:=kz hp;have hmod:((ms.map (fq kv)).toArray.modify i λx=>{ x with val:=val })=((setAt ms i val).map (fq kv)).toArray:=by
  apply cQ;intro j;simp only [setAt,cK,aO,cL,List.getElem?_modify];by_cases cj:i=j
  ·subst cj;simp [hi,fq]
  ·simp [cj]
 obtain ⟨w2,hr,dY,hg2,hs2⟩:=set_obj (P:=P) (.map ((setAt ms i val).map (fq kv)).toArray c) hb;have Q8:=BH (kv:=kv) hnd hi;refine ⟨w2,?_,⟨_,c,dY,by rw [gY];exact hnd,λx hx=>?_,λk'=>mV hp val k'⟩,hg2,hs2⟩
 ·simp only [Instr.entryStore,Sem.run_bind,Go.MapKept.run_getObj_map hb,Result.andThen_ok,asInt,asIntOf,Sem.run_pure,Q8,hmod,hr]
 ·have:x.2.2∈(setAt ms i val).map (·.2.2):=aU.2 ⟨x,hx,rfl⟩
  rw [gY] at this;obtain ⟨y,hy,e⟩:=aU.1 this;rw [<-e];exact hlt y hy
theorem qc (h:place ms k=none) (v:Value) (n:Nat):place (ms++[(k,v,n)]) k=some (ms.length,(k,v,n)):=by
 induction ms with
 |nil=>simp [place]
 |cons a r ih=>
  unfold place at h;by_cases c:k=a.1
  ·rw [if_pos c] at h;cases h
  ·rw [if_neg c] at h
   have hp:place r k=none:=by
    cases hp:place r k with
    |none=>rfl
    |some p=>rw [hp] at h;cases h
   simp only [bC,place];rw [if_neg c,ih hp];simp
theorem MapF.entry(M:MapTy P kv mt kt et z) {f:K->Option Value} (h:MapF kv w b f) (k:K):
  ∃w1 st,(Instr.mapEntry mt (.map (some b)) (kv k)).run P w=.ok (.tuple #[(f k).getD z,.int .i64 st]) w1/\MapF kv w1 b (λk'=>if k'=k then some ((f k).getD z) else f k')/\w.grownBy w1 (some b)/\w1.heap.size=w.heap.size/\
   ∀val,∃w2,(Instr.entryStore mt (.map (some b)) (.int .i64 st) val).run P w1=.ok () w2/\MapF kv w2 b (λk'=>if k'=k then some val else f k')/\w.grownBy w2 (some b)/\w2.heap.size=w.heap.size:=by
 obtain ⟨ms,c,hb,hnd,hlt,hf⟩:=h;have mS:=finding M k w ms;cases hp:place ms k with
 |some p=>
  obtain ⟨i,e⟩:=p;obtain ⟨hi,ML⟩:=kz hp;have iU:f k=some e.2.1:=by rw [<-hf k];unfold get;rw [hp];rfl
  have hsame:((ms.map (fq kv)).toArray.modify i λx=>{ x with key:=kv k })=(ms.map (fq kv)).toArray:=by
   apply cQ;intro j;rw [cK];by_cases cj:i=j
   ·subst cj
    simp [hi,fq,ML]
   ·simp [cj]
  obtain ⟨w1,hr,dV,hg1,hs1⟩:=set_obj (P:=P) (.map (ms.map (fq kv)).toArray c) hb;refine ⟨w1,e.2.2,?_,⟨ms,c,dV,hnd,hlt,λk'=>?_⟩,hg1,hs1,λval=>?_⟩
  ·simp only [Instr.mapEntry,Sem.run_bind,run_underlying M.map_,Go.MapKept.run_getObj_map hb,Result.andThen_ok,M.check,mS,hp,bI]
   have h1:((ms.map (fq kv)).toArray[i]?)=some (fq kv e):=by simp [hi]
   rw [h1];simp only [bI,bw];rw [show (fq kv e).key=kv k from by rw [<-ML];rfl];simp only [Instr.keyThatStays,M.bits,if_true,Sem.run_pure,Result.andThen_ok,hsame,hr,iU,goInt];rfl
  ·show get ms k'=if k'=k then some ((f k).getD z) else f k'
   by_cases ck:k'=k
   ·rw [if_pos ck,ck,hf k,iU];rfl
   ·rw [if_neg ck,hf k']
  ·obtain ⟨w2,h1,h2,h3,h4⟩:=jv (P:=P) (kv:=kv) dV hnd hlt hp mt val
   refine ⟨w2,h1,?_,fJ hg1 h3,h4.trans hs1⟩;have:(λk'=>if k'=k then some val else get ms k')=(λk'=>if k'=k then some val else f k'):=by funext k';rw [hf k']
   rw [<-this];exact h2
 |none=>
  have iU:f k=none:=by rw [<-hf k];unfold get;rw [hp];rfl
  have yN:((ms.map (fq kv)).toArray.push { key:=kv k,val:=z,born:=c })=((ms++[(k,z,c)]).map (fq kv)).toArray:=by simp [fq]
  obtain ⟨w1,hr,dV,hg1,hs1⟩:=set_obj (P:=P) (.map ((ms++[(k,z,c)]).map (fq kv)).toArray (c+1)) hb;have CN:((ms++[(k,z,c)]).map (·.2.2)).Nodup:=by
   rw [bQ];refine cE.2 ⟨hnd,by simp,?_⟩;intro a ha b hb';obtain ⟨x,hx,rfl⟩:=aU.1 ha;simp at hb';have:=hlt x hx;omega
  have CO:∀e∈ms++[(k,z,c)],e.2.2 < c+1:=by
   intro e he;rcases aq.1 he with h|h
   ·have:=hlt e h;omega
   ·simp at h;rw [h];exact Nat.lt_succ_self _
  refine ⟨w1,c,?_,⟨_,c+1,dV,CN,CO,λk'=>?_⟩,hg1,hs1,λval=>?_⟩
  ·simp only [Instr.mapEntry,Sem.run_bind,run_underlying M.map_,Go.MapKept.run_getObj_map hb,Result.andThen_ok,M.check,mS,hp,Option.map_none,M.zero,yN,hr,iU,Sem.run_pure,goInt,Option.getD_none]
  ·show get (ms++[(k,z,c)]) k'=if k'=k then some ((f k).getD z) else f k'
   rw [l6 hp,iU,hf k'];rfl
  ·obtain ⟨w2,h1,h2,h3,h4⟩:=jv (P:=P) (kv:=kv) dV CN CO (qc hp z c) mt val
   refine ⟨w2,h1,?_,fJ hg1 h3,h4.trans hs1⟩;have:(λk'=>if k'=k then some val else get (ms++[(k,z,c)]) k')=(λk'=>if k'=k then some val else f k'):=by
    funext k';rw [l6 hp,hf k'];by_cases ck:k'=k <;> simp [ck]
   rw [<-this];exact h2
theorem MapF.update(M:MapTy P kv mt kt et z) {f:K->Option Value} (h:MapF kv w b f) (k:K) (v:Value):
  ∃w1,(Instr.mapUpdate mt (.map (some b)) (kv k) v).run P w=.ok () w1/\MapF kv w1 b (λk'=>if k'=k then some v else f k')/\w.grownBy w1 (some b)/\w1.heap.size=w.heap.size:=by
 obtain ⟨ms,c,hb,hnd,hlt,hf⟩:=h;have mS:=finding M k w ms;cases hp:place ms k with
 |some p=>
  obtain ⟨i,e⟩:=p;obtain ⟨hi,ML⟩:=kz hp;have hmod:((ms.map (fq kv)).toArray.modify i λx=>{ x with key:=kv k,val:=v })=((setAt ms i v).map (fq kv)).toArray:=by
   apply cQ;intro j;simp only [setAt,cK,aO,cL,List.getElem?_modify];by_cases cj:i=j
   ·subst cj;simp [hi,fq,ML]
   ·simp [cj]
  obtain ⟨w1,hr,dV,hg1,hs1⟩:=set_obj (P:=P) (.map ((setAt ms i v).map (fq kv)).toArray c) hb;refine ⟨w1,?_,⟨_,c,dV,by rw [gY];exact hnd,λx hx=>?_,λk'=>?_⟩,hg1,hs1⟩
  ·simp only [Instr.mapUpdate,Sem.run_bind,run_underlying M.map_,Go.MapKept.run_getObj_map hb,Result.andThen_ok,M.check,mS,hp,bI]
   have h1:((ms.map (fq kv)).toArray[i]?)=some (fq kv e):=by simp [hi]
   rw [h1];simp only [bI,bw];rw [show (fq kv e).key=kv k from by rw [<-ML];rfl];simp only [Instr.keyThatStays,M.bits,if_true,Sem.run_pure,Result.andThen_ok,hmod,hr]
  ·have:x.2.2∈(setAt ms i v).map (·.2.2):=aU.2 ⟨x,hx,rfl⟩
   rw [gY] at this;obtain ⟨y,hy,e⟩:=aU.1 this;rw [<-e];exact hlt y hy
  ·show get (setAt ms i v) k'=if k'=k then some v else f k'
   rw [mV hp,hf k']
 |none=>
  have yN:((ms.map (fq kv)).toArray.push { key:=kv k,val:=v,born:=c })=((ms++[(k,v,c)]).map (fq kv)).toArray:=by simp [fq]
  obtain ⟨w1,hr,dV,hg1,hs1⟩:=set_obj (P:=P) (.map ((ms++[(k,v,c)]).map (fq kv)).toArray (c+1)) hb;have CN:((ms++[(k,v,c)]).map (·.2.2)).Nodup:=by
   rw [bQ];refine cE.2 ⟨hnd,by simp,?_⟩;intro a ha b hb';obtain ⟨x,hx,rfl⟩:=aU.1 ha;simp at hb';have:=hlt x hx;omega
  have CO:∀e∈ms++[(k,v,c)],e.2.2 < c+1:=by
   intro e he;rcases aq.1 he with h|h
   ·have:=hlt e h;omega
   ·simp at h;rw [h];exact Nat.lt_succ_self _
  refine ⟨w1,?_,⟨_,c+1,dV,CN,CO,λk'=>?_⟩,hg1,hs1⟩
  ·simp only [Instr.mapUpdate,Sem.run_bind,run_underlying M.map_,Go.MapKept.run_getObj_map hb,Result.andThen_ok,M.check,mS,hp,Option.map_none,yN,hr]
  ·show get (ms++[(k,v,c)]) k'=if k'=k then some v else f k'
   rw [l6 hp,hf k']
end
abbrev sk (l:List UInt8):Value:=.string (bs l)
theorem qj (a b:List UInt8):(bs a ==bs b)=decide (a=b):=by
 show ((bs a).data ==(bs b).data)=_;rw [Bool.eq_iff_iff];simp [bs]
theorem Ih (k:List UInt8):∀(ms:List (List UInt8×Value×Nat)) (i:Nat),Instr.findNow .string (.string (bs k)) (ms.map (fq sk)) i=some ((place ms k).map λp=>(i+p.1,p.2.2.1))
 | [],_=>rfl
 |e :: r,i=>by
  have ih:=Ih k r (i+1);simp only [bB,Instr.findNow,fq,Instr.sameNow,place];by_cases h:k=e.1
  ·subst h;simp [qj]
  ·have:(bs k ==bs e.1)=false:=by rw [qj];simpa using h
   rw [this,if_neg h];simp only;refine Eq.trans ih ?_;cases place r k with
   |none=>rfl
   |some p=>simp;omega
theorem MapTy.str {P:Program} {mt kt et:TypeId} {z:Value} (hm:P.underlying mt=some (.map kt et)) (hz:∀w,(zeroValue et).run P w=.ok z w) (hk:P.underlying kt=some .string):MapTy P sk mt kt et z where
 map_:=hm
 zero:=hz
 find:=λk w ms=>by
  unfold Instr.findKey;simp only [Sem.run_bind,run_underlying hk,Result.andThen_ok,Ih,Sem.run_pure,aV]
 check:=λe a w=>by
  unfold Instr.checkKey;simp only [Sem.run_bind,run_underlying hk,Result.andThen_ok,Sem.run_pure]
 bits:=λa=>by simp [Instr.sameBits,qj]
def SetS (P:Program) (w:World) (b:Nat) (l:List (List UInt8)):Prop:=∃f,MapF sk w b f/\∀s,(f s).getD (.bool false)=.bool (decide (s∈l))
section
variable {P:Program} {mt kt et:TypeId} {w w':World} {b:Nat} {l:List (List UInt8)}
theorem SetS.new (P:Program) (w:World):SetS P (w.alloc (.map #[] 0)) w []:=⟨_,MapF.new w,λs=>by simp⟩
theorem SetS.heap (h:SetS P w b l) (hb:w'.heap[b]? =w.heap[b]?):SetS P w' b l:=by
 obtain ⟨f,h1,h2⟩:=h;exact ⟨f,h1.heap hb,h2⟩
theorem SetS.lt (h:SetS P w b l):b < w.heap.size:=by
 obtain ⟨f,h1,_⟩:=h;exact h1.lt
theorem SetS.below (h:SetS P w b l) (hb:Below w w w'):SetS P w' b l:=h.heap (hb.block b h.lt)
theorem SetS.alloc (h:SetS P w b l) (o:Obj):SetS P (w.alloc o) b l:=h.below ((aC _ w).alloc (aB _) o)
theorem SetS.grown {row:Option Nat} (h:SetS P w b l) (hb:w.grownBy w' row) (hg:some b≠row):SetS P w' b l:=h.heap (hb.block b h.lt hg)
theorem SetS.iff (h:SetS P w b l) {l':List (List UInt8)} (hl:∀x,x∈l↔x∈l'):SetS P w b l':=by
 obtain ⟨f,h1,h2⟩:=h;exact ⟨f,h1,λs=>by rw [h2 s];congr 1;exact decide_eq_decide.2 (hl s)⟩
theorem SetS.look (M:MapTy P sk mt kt et (.bool false)) (h:SetS P w b l) (s:List UInt8):(Instr.lookup mt (.map (some b)) (.string (bs s)) false).run P w=.ok (.bool (decide (s∈l))) w:=by
 obtain ⟨f,h1,h2⟩:=h;rw [h1.look M s,h2]
theorem SetS.add (M:MapTy P sk mt kt et (.bool false)) (h:SetS P w b l) (s:List UInt8):
  ∃w1,(Instr.mapUpdate mt (.map (some b)) (.string (bs s)) (.bool true)).run P w=.ok () w1/\SetS P w1 b (s :: l)/\w.grownBy w1 (some b)/\w1.heap.size=w.heap.size:=by
 obtain ⟨f,h1,h2⟩:=h;obtain ⟨w1,e1,e2,e3,e4⟩:=h1.update M s (.bool true);refine ⟨w1,e1,⟨_,e2,λx=>?_⟩,e3,e4⟩;by_cases c:x=s
 ·simp [c]
 ·simp only [if_neg c]
  rw [h2 x];simp [c]
end
end Ms
section
open Go.RowKit
attribute [local go_sem] dR dO dS dP
theorem DL:(prog.info? 9).map (λi=>(i.zero,i.size,i.bytes))=some (some (.string ⟨#[]⟩),1,16):=by kernel_rfl
theorem zD:Ms.MapTy prog Ms.sk 122 9 4 (.bool false):=Ms.MapTy.str (by kernel_rfl) (λw=>by simp [go_sem]) (by kernel_rfl)
theorem uJ (w:World):(Instr.makeMap 122 none).run prog w=.ok (.map (some w.heap.size)) (w.alloc (.map #[] 0)):=by simp [Instr.makeMap,go_sem]
abbrev qH (w:World) (b:Nat) (l:List By):Prop:=Ms.SetS prog w b l
def Yz (u:Uq) (s:By):By:=if s∈u.first then fF s (iF u.there s 90 1) else s
def si (xs:List By) (k:Nat):Uq:=(xs.take k).foldl qh ⟨xs,[],[]⟩
theorem DM (xs:List By) (k:Nat) (h:k < xs.length):si xs (k+1)=qh (si xs k) xs[k]:=by
 unfold si;rw [ay h,List.foldl_append];rfl
theorem Rq (xs:List By):(si xs xs.length).o=rQ xs:=by
 unfold si rQ Un;rw [cD]
theorem ve {xs:List By} (hl:xs.length<=80):∀k,k<=xs.length->∃cs,mD xs (xs.take k) (xs.drop k) (si xs k) cs
 |0,_=> ⟨[],mD.start xs⟩
 |k+1,h=>by
  obtain ⟨cs,h1⟩:=ve hl k (by omega);rw [List.drop_eq_getElem_cons (show k < xs.length by omega)] at h1;obtain ⟨cs',h2⟩:=h1.step hl;exact ⟨cs',by rw [DM _ _ (by omega),ay (by omega)];exact h2⟩
variable {xs:List By}
theorem Rr (hl:xs.length<=80) {k:Nat} (h:k < xs.length):
  (si xs (k+1)).o=(si xs k).o++[Yz (si xs k) xs[k]]/\(∀x,x∈Yz (si xs k) xs[k] :: (si xs k).there↔x∈(si xs (k+1)).there)/\(∀x,x∈xs[k] :: (si xs k).first↔x∈(si xs (k+1)).first):=by
 obtain ⟨cs,hi⟩:=ve hl k (ag h);rw [DM _ _ h];generalize hu:si xs k=u at*;unfold qh Yz;by_cases c:xs[k]∈u.first
 ·rw [if_pos c,if_pos c]
  refine ⟨rfl,λx=>Iff.rfl,λx=>?_⟩;simp only [aQ];exact ⟨λq=>q.elim (λe=>e ▸ c) _root_.id,.inr⟩
 ·rw [if_neg c,if_neg c]
  refine ⟨rfl,λx=>?_,λx=>Iff.rfl⟩;have:xs[k]∈u.there:=(hi.theres _).2 (.inl (aa h));simp only [aQ];exact ⟨λq=>q.elim (λe=>e ▸ this) _root_.id,.inr⟩
theorem Rs (hl:xs.length<=80) {k:Nat} (h:k<=xs.length) (s:By):fF s (iF (si xs k).there s 90 1)∉(si xs k).there/\1<=iF (si xs k).there s 90 1/\iF (si xs k).there s 90 1<=81/\∀j,1<=j->j < iF (si xs k).there s 90 1->fF s j∈(si xs k).there:=by
 obtain ⟨cs,hi⟩:=ve hl k h;exact hi.free hl s
structure zF (w0 wr:World) (M2:Nat) (v:Value) (u:Uq):Prop where
 gt:w0.heap.size < M2
 there:qH wr w0 u.there
 first:qH wr M2 u.first
 own:fm wr (M2+1) v u.o
 below:Below w0 w0 wr
variable {v:Value}
theorem zF.stay{w0 wr w':World} {M2:Nat} {u:Uq} (h:zF w0 wr M2 v u) (hb:Below wr wr w'):zF w0 w' M2 v u:=
 ⟨h.gt,h.there.below hb,h.first.below hb,h.own.below hb,h.below.trans (hb.mono h.below.size)⟩
theorem zF.marks{w0 wr w1 w2:World} {M2:Nat} {u:Uq} (h:zF w0 wr M2 v u) {F T:List By} (h1:qH w1 M2 F) (g1:wr.grownBy w1 (some M2)) (h2:qH w2 w0 T) (g2:w1.grownBy w2 (some w0.heap.size)):
  qH w2 w0 T/\qH w2 M2 F/\fm w2 (M2+1) v u.o/\Below w0 w0 w2:=by
 have hgt:=h.gt;have hown:∀(r:Nat),r<=M2->v.ownBlock=none\/v.ownBlock≠some r:=λr hr=>by
  rcases hq:v.ownBlock with _|k
  ·exact .inl rfl
  ·exact .inr (by have:=(h.own.ge k hq).1;intro e;have:=aX e;omega)
 have b1:=eY h.below g1 (ag hgt) h.below.size;refine ⟨h2,h1.grown g2 (λe=>by have:=aX e;omega),(h.own.kept g1 (hown M2 (aB _))).kept g2 (hown _ (ag hgt)),eY b1 g2 (aB _) b1.size⟩
theorem wW (A:Option Addr) (n c:Nat) (xs:List By) (w:World) (hx:Strs w A n c xs) (hl:xs.length<=80) (hr:∀x∈xs,rightN x=true):
  Calls prog 95 #[Qq A n c] w λe w'=>∃v,e=.returned (.tuple #[v,qn])/\fm w' w v (rQ xs)/\Below w w w':=by
 obtain ⟨i0,gV,hz0,hz1,hz2⟩:=info_parts DL;have hn:=hx.len;have HX:=dL hx;have HI:=dL gV;have gx:=dL hz0;have gJ:=dL hz1;have gT:=dL hz2;have HRi:dK (∀x∈xs,rightN x=true):=hr;have hm:=uJ;have QD:decide ((n:Int) > 1000)=false:=decide_eq_false (by omega);have dV:=dL ((aC w w).alloc (aB _) (.map #[] 0));clear hx gV hz0 hz1 hz2 hr;go_enter func95,ntmps95;go_wp2_with fail;go_loopw [21] (λi wr=>∃k:Nat,i=.int .i64 k/\k<=n/\qH wr w (xs.take k)/\Below w w wr) (λi _=>n - (intOf i).toNat)
 case atStart=>exact ⟨0,rfl,aS _,Ms.SetS.new _ w,dV.o⟩
 case round=>
  obtain ⟨k,rfl,hk,hS,hb⟩:=hrel;rcases aD k n with hlt|hge
  ·obtain ⟨b,off,rfl,jW,c0,CP⟩:=Strs.at_ (HX.o.below hb) (by omega:k < xs.length)
   have hrx:=HRi.o xs[k] (aa _);have hT:dK (∀x,x∈xs[k]'(by omega) :: xs.take k↔x∈xs.take (k+1)):=λx=>by
    rw [ay (by omega),aq,aW,aQ];exact Or.comm
   generalize xs[k]=x at*;have hki:(k:Int) < (n:Int):=by omega
   have HR:=dL (mY x CP wr);rw [mW hrx] at HR;have HB:=dL hb;have HS:=dL hS;clear hb hS hrx;go_wp2_with fail;refine HR.o.mono ?_;rintro e w2 ⟨rfl,dY⟩;obtain ⟨w3,e3,Mj,hg3,hs3⟩:=Ms.SetS.add zD (HS.o.below dY) x;have B8:=dL (Mj.iff hT.o);have eC:=dL (eY (HB.o.trans (dY.mono HB.o.size)) hg3 (aB _) (aI HB.o.size dY.size));clear Mj hg3 hs3 dY;go_wp2_with fail;exact ⟨⟨k+1,by go_num,by omega,B8.o,eC.o⟩,by simp [intOf];omega⟩
  ·have hkn:¬ (k:Int) < (n:Int):=by omega
   have HB:=dL hb;have hS':qH wr w xs:=by rw [af (by omega)] at hS;exact hS
   have HS:=dL hS';clear hb hS hS';go_wp2_with fail;have Z6:zF w (wr.alloc (.map #[] 0)) wr (.slice none 0 0) (si xs 0):=
    ⟨HS.o.lt,HS.o.below ((aC _ wr).alloc (aB _) _),Ms.SetS.new _ wr,dQ.nil_ _ _ _,HB.o.alloc HB.o.size _⟩
   obtain ⟨wa,IV⟩:=dG (wr.alloc (.map #[] 0));obtain ⟨M2,hM2⟩:=dG wr.heap.size;rw [<-IV,<-hM2] at Z6;have HT0:=dL Z6;rw [<-IV,<-hM2];clear Z6 IV hM2 HS HB hkn hge hk dV;go_loopw [36,9] (λi u wq=>∃k:Nat,i=.int .i64 k/\k<=n/\zF w wq M2 u (si xs k)) (λi _ _=>n - (intOf i).toNat)
   case atStart=>exact ⟨0,rfl,aS _,HT0.o⟩
   case round=>
    clear HT0;obtain ⟨k,rfl,hk,hT⟩:=hrel;rcases aD k n with hlt|hge
    ·obtain ⟨b,off,rfl,jW,c0,CP⟩:=Strs.at_ (HX.o.below hT.below) (by omega:k < xs.length)
     have hrx:=HRi.o xs[k] (aa _);obtain ⟨q1,q2,q3⟩:=Rr hl (show k < xs.length by omega);obtain ⟨f1,f2,f3,f4⟩:=Rs hl (show k<=xs.length by omega) xs[k];have hU1:=dL (rfl:si xs (k+1)=si xs (k+1));have hol:(si xs k).o.length=k:=by
      obtain ⟨cs,hinv⟩:=ve hl k (by omega);rw [hinv.len,aR];omega
     obtain ⟨U',hU'⟩:=dG (si xs (k+1));rw [<-hU'] at q1 q2 q3;have HU':=dL hU';generalize si xs k=U at*;generalize xs[k]=x at*;obtain ⟨gv,hgv⟩:=dG (Yz U x);rw [<-hgv] at q1 q2;obtain ⟨F,hF⟩:=dG (iF U.there x 90 1);rw [<-hF] at f1 f2 f3 f4;have abq:x∈U.first->gv=fF x F:=λh=>by rw [hgv];unfold Yz;rw [if_pos h,hF]
     have abr:x∉U.first->gv=x:=λh=>by rw [hgv];unfold Yz;rw [if_neg h]
     have tq:=dL abq;have HG2:=dL abr;have wA:=dL q1;have Lt:dK (∀y,y∈gv :: U.there↔y∈U'.there):=q2;have nC:dK (∀y,y∈x :: U.first↔y∈U'.first):=q3;have yP:=dL f1;have HF4:dK (∀j,1<=j->j < F->fF x j∈U.there):=f4;have HRx:=dL hrx;have hki:(k:Int) < (n:Int):=by omega
     obtain ⟨A2,c2,rfl⟩:=dQ.isSlice hT.own;have RE:=dL hT;have RF:=dL hol;clear hol hT hU' hgv hF abq abr q1 q2 q3 f1 f4 hrx hU1;go_wp2_with fail;go_loopw [12,13] (λg j wq=>∃(m:Nat) (gn:By),g=.string (bs gn)/\j=.int .i64 m/\1<=m/\m<=F+1/\(m=1->gn=x)/\(2<=m->x∈U.first/\gn=fF x (m - 1))/\zF w wq M2 (.slice A2 U.o.length c2) U) (λ_ j _=>100 - (intOf j).toNat)
     case atStart=>exact ⟨1,x,rfl,rfl,aB _,by omega,λ_=>rfl,λh=>absurd h (by decide),RE.o⟩
     case round=>
      clear RE;obtain ⟨m,gn,rfl,rfl,yu,hmF,hg1,hg2,hT⟩:=hrel;have abt:=hT.first.look zD x;have abu:=hT.there.look zD gn;by_cases cF:x∈U.first
      ·have hc1:decide (x∈U.first)=true:=decide_eq_true cF
       rw [hc1] at abt;by_cases hm':m=1\/gn∈U.there
       ·have agp:m < F+1:=by
         rcases hm' with h|h
         ·omega
         ·rcases aD m (F+1) with q|q
          ·exact q
          ·exfalso
           have:m=F+1:=by omega
           subst this;rw [(hg2 (by omega)).2,Nat.add_sub_cancel] at h;exact yP.o h
        have HC:=λwz=>dL (DJ x HRx.o m yu (by omega) wz)
        obtain ⟨cp,uE⟩:=dG (fF x m);simp only [<-uE] at HC;have hCz:∀wz,dK (Calls prog 154 #[.string (bs x),m] wz (dM wz (.tuple #[cp,qn]))):=HC;have Z9:=dL uE;clear uE;have XM:dK ((m=1/\((m:Int) ==1)=true)\/(m≠1/\((m:Int) ==1)=false/\decide (gn∈U.there)=true)):=by
         show _\/_;rcases aD 1 m with q|q
         ·refine .inr ⟨by omega,by rw [beq_eq_false_iff_ne];omega,decide_eq_true (hm'.resolve_left (by omega))⟩
         ·refine .inl ⟨by omega,by rw [beq_iff_eq];omega⟩
        have HT:=dL hT;have HCF:=dL cF;clear HC hm' hT hg1 hg2 hc1 cF;rcases XM.o with ⟨adu,uf⟩| ⟨_,uf,hd2⟩
        ·have hC1:Calls prog 154 #[.string (bs x),yh] wr (dM wr (.tuple #[cp,qn])):=by
          have:=(hCz wr).o;rw [adu] at this;exact this
         have Ht:=dL hC1;clear hC1 adu;clear XM;go_wp2_with fail;refine (hCz wr).o.mono ?_;rintro e w2 ⟨rfl,dY⟩;have TZ:=dL (HT.o.stay dY);clear dY;go_wp2_with fail;exact ⟨⟨m+1,cp,rfl,by go_num,by omega,by omega,λh=>by omega,λ_=> ⟨HCF.o,Z9.o⟩,TZ.o⟩,by simp [intOf];omega⟩
        ·rw [hd2] at abu
         clear XM;go_wp2_with fail;refine (hCz wr).o.mono ?_;rintro e w2 ⟨rfl,dY⟩;have TZ:=dL (HT.o.stay dY);clear dY;go_wp2_with fail;exact ⟨⟨m+1,cp,rfl,by go_num,by omega,by omega,λh=>by omega,λ_=> ⟨HCF.o,Z9.o⟩,TZ.o⟩,by simp [intOf];omega⟩
       ·have hm2:2<=m:=by omega
        have XL:gn∉U.there:=λh=>hm' (.inr h)
        have hgn:gn=gv:=by
         rw [tq.o cF,(hg2 hm2).2];congr 1;rcases aD (m - 1) F with q|q
         ·exact absurd (HF4.o (m - 1) (by omega) q) (by rw [<-(hg2 hm2).2];exact XL)
         ·omega
        have uf:((m:Int) ==1)=false:=by rw [beq_eq_false_iff_ne];omega
        have hd2:decide (gn∈U.there)=false:=decide_eq_false XL;rw [hd2] at abu;subst hgn;have HT:=dL hT;clear hT hg1 hg2 hm' XL cF hc1;have Lu:=HT.o;obtain ⟨w3,e3,Mj,hg3,hs3⟩:=Ms.SetS.add zD Lu.first x;obtain ⟨w4,e4,UT,hg4,hs4⟩:=Ms.SetS.add zD (Lu.there.grown hg3 (λe=>by have:=aX e;have:=Lu.gt;omega)) gn;obtain ⟨m1,m2,m3,m4⟩:=Lu.marks Mj hg3 UT hg4;have hgt:=Lu.gt;have hms:M2 < w4.heap.size:=m2.lt;have Q6:=dL ((m1.iff Lt.o).alloc (.cells #[gn] 9));have TZ:=dL ((m2.iff nC.o).alloc (.cells #[gn] 9));have HO:=dL (dQ.alloc m3 (.cells #[gn] 9));have HB:=dL (m4.alloc m4.size (.cells #[gn] 9));clear Lu Mj hg3 UT hg4 hs3 hs4 m1 m2 m3 m4;go_wp2_with (at_builtin;refine dW _ rfl (.tmp 68) (.tmp 70) 99 99 rfl 9 i0 (.string ⟨#[]⟩) 1 underlying99 HI.o gx.o gJ.o rfl (by decide) (M2+1) _ U.o.length (strs U.o) rfl HO.o (.slice (some w4) 1 1) rfl 1 [.string (bs gn)] ?c1 ?c3 ?c4 ?c5 ?_)
        case c1=>exact Src.one underlying99 (by simp [go_sem]) rfl
        case c3=>have:=RF.o;unfold maxLen;omega
        case c4=>have:=RF.o;rw [gT.o];omega
        case c5=>simp;omega
        intro v' w5 hown hgrow fR;have hne:∀r,r<=M2->some r≠(Value.slice A2 U.o.length c2).ownBlock:=λr hr e=>by have:=(HO.o.ge _ e.symm).1;omega
        have HTn:dK (zF w w5 M2 v' U'):=⟨hgt,Q6.o.grown hgrow (hne _ (ag hgt)),TZ.o.grown hgrow (hne _ (aB _)),by rw [wA.o];exact fm.snoc hown,iD HB.o (by omega) (by simp;omega) HO.o hgrow⟩;clear hown hgrow fR hne;go_wp2_with fail;exact ⟨⟨k+1,by go_num,by omega,by rw [<-HU'.o];exact HTn.o⟩,by simp [intOf];omega⟩
      ·have hc1:decide (x∈U.first)=false:=decide_eq_false cF
       rw [hc1] at abt;have hgn:gn=gv:=by
        rcases aD 1 m with q|q
        ·exact absurd (hg2 q).1 cF
        ·rw [HG2.o cF,hg1 (by omega)]
       subst hgn;have HT:=dL hT;clear hT hg1 hg2 cF hc1;have Lu:=HT.o;obtain ⟨w3,e3,Mj,hg3,hs3⟩:=Ms.SetS.add zD Lu.first x;obtain ⟨w4,e4,UT,hg4,hs4⟩:=Ms.SetS.add zD (Lu.there.grown hg3 (λe=>by have:=aX e;have:=Lu.gt;omega)) gn;obtain ⟨m1,m2,m3,m4⟩:=Lu.marks Mj hg3 UT hg4;have hgt:=Lu.gt;have hms:M2 < w4.heap.size:=m2.lt;have Q6:=dL ((m1.iff Lt.o).alloc (.cells #[gn] 9));have TZ:=dL ((m2.iff nC.o).alloc (.cells #[gn] 9));have HO:=dL (dQ.alloc m3 (.cells #[gn] 9));have HB:=dL (m4.alloc m4.size (.cells #[gn] 9));clear Lu Mj hg3 UT hg4 hs3 hs4 m1 m2 m3 m4;go_wp2_with (at_builtin;refine dW _ rfl (.tmp 68) (.tmp 70) 99 99 rfl 9 i0 (.string ⟨#[]⟩) 1 underlying99 HI.o gx.o gJ.o rfl (by decide) (M2+1) _ U.o.length (strs U.o) rfl HO.o (.slice (some w4) 1 1) rfl 1 [.string (bs gn)] ?c1 ?c3 ?c4 ?c5 ?_)
       case c1=>exact Src.one underlying99 (by simp [go_sem]) rfl
       case c3=>have:=RF.o;unfold maxLen;omega
       case c4=>have:=RF.o;rw [gT.o];omega
       case c5=>simp;omega
       intro v' w5 hown hgrow fR;have hne:∀r,r<=M2->some r≠(Value.slice A2 U.o.length c2).ownBlock:=λr hr e=>by have:=(HO.o.ge _ e.symm).1;omega
       have HTn:dK (zF w w5 M2 v' U'):=⟨hgt,Q6.o.grown hgrow (hne _ (ag hgt)),TZ.o.grown hgrow (hne _ (aB _)),by rw [wA.o];exact fm.snoc hown,iD HB.o (by omega) (by simp;omega) HO.o hgrow⟩;clear hown hgrow fR hne;go_wp2_with fail;exact ⟨⟨k+1,by go_num,by omega,by rw [<-HU'.o];exact HTn.o⟩,by simp [intOf];omega⟩
    ·obtain rfl:k=n:=by omega
     have hkn:¬ (k:Int) < (k:Int):=by omega
     have HO:=dL (hT.own.mono (aI (ag hT.gt) (bF M2)));have HB:=dL hT.below;obtain ⟨A2,c2,rfl⟩:=dQ.isSlice hT.own;have HN:=dL hn;clear hT hn;go_wp2_with fail;go_ret2;refine ⟨_,rfl,?_,HB.o⟩;rw [<-Rq,HN.o];exact HO.o
#print axioms wW
end
end Go.Proofs.YtgdaahffmcfhpaaGreatDoor
