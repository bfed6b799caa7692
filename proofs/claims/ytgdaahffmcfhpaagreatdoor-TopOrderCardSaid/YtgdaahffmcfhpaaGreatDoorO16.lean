/- Lemmas on the way: Fs KMp. -/
import Derived.Maps.Range
import Derived.Shelf.SlMaps.Clone
import Derived.Maps.RangeWalk
import Derived.Test.YtgdaahffmcfhpaaGreatDoorO01
set_option maxRecDepth 100000
set_option maxHeartbeats 8000000
namespace Go.Proofs.YtgdaahffmcfhpaaGreatDoor
open aA
open Tryz
namespace Fm
open Go.RowKit
open Go.ChangeMaps (setBlock)
abbrev Bytes:=List UInt8
abbrev Files:=List (Bytes×Bytes)
def G5 (n:Nat) (e:Bytes×Bytes):MapEntry:={ key:=.string (bs e.1),val:=.string (bs e.2),born:=n }
def fN:Nat->Files->List MapEntry
 |_,[]=>[]
 |n,e :: r=>G5 n e :: fN (n+1) r
def uy (fs:Files):Obj:=.map (fN 0 fs).toArray fs.length
def Fs (w:World) (b:Nat) (fs:Files):Prop:=w.heap[b]? =some (uy fs)
def place:Files->Bytes->Option (Nat×Bytes)
 | [],_=>none
 |e :: r,k=>if e.1=k then some (0,e.2) else (place r k).map λp=>(p.1+1,p.2)
def get (fs:Files) (k:Bytes):Option Bytes:=(place fs k).map (·.2)
def put:Files->Bytes->Bytes->Files
 | [],k,v=>[(k,v)]
 |e :: r,k,v=>if e.1=k then (k,v) :: r else e :: put r k v
def tot (fs:Files):Nat:=(fs.map (·.2.length)).sum
theorem qj (a b:Bytes):(bs a ==bs b)=decide (a=b):=by
 show ((bs a).data ==(bs b).data)=_;rw [Bool.eq_iff_iff];simp [bs]
section
variable {P:Program} {w w':World} {b n:Nat} {fs:Files}
theorem Fs.lt (h:Fs w b fs):b < w.heap.size:=by
 rcases aD b w with hlt|hge
 ·exact hlt
 ·unfold Fs at h;rw [ax hge] at h;cases h
theorem Fs.heap (h:Fs w b fs) (hb:w'.heap[b]? =w.heap[b]?):Fs w' b fs:=hb.trans h
theorem Fs.below (h:Fs w b fs) (hb:Below w w w'):Fs w' b fs:=hb.block b h.lt|>.trans h
theorem Fs.grown {row:Option Nat} (h:Fs w b fs) (hb:w.grownBy w' row) (hg:some b≠row):Fs w' b fs:=(hb.block b h.lt hg).trans h
theorem Fs.drew (h:Fs w b fs):Fs w.drew b fs:=h
theorem Fs.alloc (h:Fs w b fs) (o:Obj):Fs (w.alloc o) b fs:=(bM w o b h.lt).trans h
theorem Fs.setCell (h:Fs w b fs) {p:Addr} (hp:b≠p.block) (u:Value):Fs (w.setCell p u) b fs:=(bU w p u b hp).trans h
theorem Fs.new (w:World):Fs (w.alloc (.map #[] 0)) w []:=heap_alloc_new w _
variable {kt et t mt:TypeId}
theorem Fs.ne_blk(h:Fs w b fs) {g:Nat} {cs:Array Value} (hg:Blk w g t cs):b≠g:=by
 rintro rfl;unfold Fs Blk at*;rw [h] at hg;cases hg
theorem Io (k:Bytes):∀(fs:Files) (n i:Nat),Instr.findNow .string (.string (bs k)) (fN n fs) i=some ((place fs k).map λp=>(i+p.1,.string (bs p.2)))
 | [],_,_=>rfl
 |e :: r,n,i=>by
  have ih:=Io k r (n+1) (i+1);simp only [fN,Instr.findNow,G5,Instr.sameNow,place];by_cases h:e.1=k
  ·subst h;simp [qj]
  ·have:(bs k ==bs e.1)=false:=by
    rw [qj];simpa using λh'=>h (Eq.symm h')
   rw [this,if_neg h];simp only;rw [ih];cases place r k with
   |none=>rfl
   |some p=>simp;omega
theorem xC (hk:P.underlying kt=some .string) (k:Bytes) (w:World) (fs:Files):
  (Instr.findKey kt (.string (bs k)) (fN 0 fs)).run P w=.ok ((place fs k).map λp=>(p.1,.string (bs p.2))) w:=by
 unfold Instr.findKey;simp only [Sem.run_bind,run_underlying hk,Result.andThen_ok,Io,Sem.run_pure,aV]
theorem tE (hk:P.underlying kt=some .string) (k:Bytes) (e:Bool) (w:World):(Instr.checkKey e 10000 kt (.string (bs k))).run P w=.ok () w:=by
 unfold Instr.checkKey;simp only [Sem.run_bind,run_underlying hk,Result.andThen_ok,Sem.run_pure]
theorem DX (hz:∀w,(zeroValue et).run P w=.ok (.string ⟨#[]⟩) w) (w:World):(zeroValue et).run P w=.ok (.string (bs [])) w:=hz w
theorem Fs.look (hm:P.underlying mt=some (.map kt et)) (hk:P.underlying kt=some .string) (hz:∀w,(zeroValue et).run P w=.ok (.string ⟨#[]⟩) w) (h:Fs w b fs) (k:Bytes):
  (Instr.lookup mt (.map (some b)) (.string (bs k)) false).run P w=.ok (.string (bs ((get fs k).getD []))) w:=by
 have mS:=xC (P:=P) hk k w fs;simp only [Instr.lookup,Sem.run_bind,run_underlying hm,Go.MapKept.run_getObj_map h,Sem.run_pure,Result.andThen_ok,tE hk,mS];unfold get;cases place fs k with
 |none=>simp [DX hz]
 |some p=>simp
theorem Fs.look2 (hm:P.underlying mt=some (.map kt et)) (hk:P.underlying kt=some .string) (hz:∀w,(zeroValue et).run P w=.ok (.string ⟨#[]⟩) w) (h:Fs w b fs) (k:Bytes):
  (Instr.lookup mt (.map (some b)) (.string (bs k)) true).run P w=.ok (.tuple #[.string (bs ((get fs k).getD [])),.bool (get fs k).isSome]) w:=by
 have mS:=xC (P:=P) hk k w fs;simp only [Instr.lookup,Sem.run_bind,run_underlying hm,Go.MapKept.run_getObj_map h,Sem.run_pure,Result.andThen_ok,tE hk,mS];unfold get;cases place fs k with
 |none=>simp [DX hz]
 |some p=>simp
theorem rZ:∀(fs gs:Files) (n:Nat),fN n (fs++gs)=fN n fs++fN (n+fs.length) gs
 | [],_,_=>rfl
 |e :: r,gs,n=>by simp only [bC,fN,rZ r gs (n+1),aY];congr 3;omega
theorem Ip:∀{fs:Files} {k:Bytes},place fs k=none->∀v,put fs k v=fs++[(k,v)]
 | [],_,_,_=>rfl
 |e :: r,k,h,v=>by
  unfold place at h;by_cases c:e.1=k
  ·rw [if_pos c] at h;cases h
  ·rw [if_neg c] at h
   have:place r k=none:=by
    cases hp:place r k with
    |none=>rfl
    |some p=>rw [hp] at h;cases h
   unfold put;rw [if_neg c,Ip this v];rfl
theorem Iq:∀{fs:Files} {k:Bytes} {i:Nat} {u:Bytes},place fs k=some (i,u)->∀(v:Bytes) (n:Nat),(fN n fs).modify i (λe=>{ e with key:=.string (bs k),val:=.string (bs v) })=fN n (put fs k v)
 | [],_,_,_,h,_,_=>by cases h
 |e :: r,k,i,u,h,v,n=>by
  unfold place at h;unfold put;by_cases c:e.1=k
  ·rw [if_pos c] at h;cases h
   rw [if_pos c];simp [fN,G5]
  ·rw [if_neg c] at h ⊢
   cases hp:place r k with
   |none=>rw [hp] at h;cases h
   |some p=>
    rw [hp] at h;cases h;simp only [fN,List.modify_succ_cons];rw [Iq hp v (n+1)]
theorem xD:∀{fs:Files} {k:Bytes} {p:Nat×Bytes},place fs k=some p->∀v,(put fs k v).length=fs.length
 | [],_,_,h,_=>by cases h
 |e :: r,k,p,h,v=>by
  unfold place at h;unfold put;by_cases c:e.1=k
  ·rw [if_pos c];rfl
  ·rw [if_neg c] at h ⊢
   cases hp:place r k with
   |none=>rw [hp] at h;cases h
   |some q=>simp [xD hp v]
theorem AI:∀{fs:Files} {k:Bytes} {i:Nat} {u:Bytes} (n:Nat),place fs k=some (i,u)->((fN n fs)[i]?).map (·.key)=some (.string (bs k))
 | [],_,_,_,_,h=>by cases h
 |e :: r,k,i,u,n,h=>by
  unfold place at h;by_cases c:e.1=k
  ·rw [if_pos c] at h;cases h
   simp [fN,G5,c]
  ·rw [if_neg c] at h
   cases hp:place r k with
   |none=>rw [hp] at h;cases h
   |some p=>
    rw [hp] at h;cases h;simpa [fN] using AI (n+1) hp
theorem set_obj {w:World} {b:Nat} (o:Obj) {es:Array MapEntry} {c:Nat} (hb:w.heap[b]? =some (.map es c)):∃w',(setObj b o).run P w=.ok () w'/\w'.heap[b]? =some o/\w.grownBy w' (some b)/\w'.heap.size=w.heap.size:=
 ⟨_,Go.MapKept.run_setObj_map o hb,(Go.MapKept.heap_set hb).1,⟨rfl,rfl,rfl,by simp,λi _ hne=>(Go.MapKept.heap_set hb).2 i (λe=>hne (by rw [e]))⟩,by simp⟩
theorem Fs.store (hm:P.underlying mt=some (.map kt et)) (hk:P.underlying kt=some .string) (h:Fs w b fs) (k v:Bytes):
  ∃w',(Instr.mapUpdate mt (.map (some b)) (.string (bs k)) (.string (bs v))).run P w=.ok () w'/\Fs w' b (put fs k v)/\w.grownBy w' (some b)/\w'.heap.size=w.heap.size:=by
 obtain ⟨w',hr,h1,h2,h3⟩:=set_obj (P:=P) (uy (put fs k v)) h;refine ⟨w',?_,h1,h2,h3⟩;have mS:=xC (P:=P) hk k w fs;simp only [Instr.mapUpdate,Sem.run_bind,run_underlying hm,Go.MapKept.run_getObj_map h,Result.andThen_ok,tE hk,mS];cases hp:place fs k with
 |none=>
  have e:(uy (put fs k v))=.map ((fN 0 fs).toArray.push { key:=.string (bs k),val:=.string (bs v),born:=fs.length }) (fs.length+1):=by
   rw [Ip hp];simp [uy,rZ,fN,G5]
  rw [e] at hr;simpa using hr
 |some p=>
  obtain ⟨i,u⟩:=p;have e:(uy (put fs k v))=.map ((fN 0 fs).toArray.modify i (λe=>{ e with key:=.string (bs k),val:=.string (bs v) })) fs.length:=by
   unfold uy;rw [xD hp,<-Iq hp v 0];congr 1;apply Array.toList_inj.1;simp
  rw [e] at hr;have hkey:=AI 0 hp;have abz:Instr.sameBits 10000 (.string (bs k)) (.string (bs k))=true:=by simp [Instr.sameBits,qj]
  have abA:(Instr.keyThatStays (.string (bs k)) (.string (bs k))).run P w=.ok (.string (bs k)) w:=by unfold Instr.keyThatStays;rw [abz];rfl
  simp only [bI,aO,hkey,bw,Sem.run_bind,abA,Result.andThen_ok,hr]
theorem nO:∀(fs:Files) (n:Nat),(fN n fs).map (·.born)=List.range' n fs.length
 | [],_=>rfl
 |e :: r,n=>by simp [fN,G5,nO r (n+1),List.range'_succ]
theorem uL (fs:Files):((fN 0 fs).map (·.born)).Nodup:=by rw [nO];exact List.nodup_range'
theorem NY {fs:Files} {x:MapEntry} (h:x∈fN 0 fs):x.born < fs.length:=by
 have:x.born∈(fN 0 fs).map (·.born):=aU.2 ⟨x,h,rfl⟩;rw [nO] at this;simpa using List.mem_range'_1.1 this
def uz (e:MapEntry):Nat:=match e.val with| .string s=>s.size|_=>0
theorem AJ:∀(fs:Files) (n:Nat),((fN n fs).map uz).sum=tot fs
 | [],_=>rfl
 |e :: r,n=>by simp only [fN,bB,List.sum_cons,AJ r (n+1),tot];simp [uz,G5,dR]
theorem xE:∀(fs:Files) (n:Nat),∀x∈fN n fs,∃k v,x.key=.string (bs k)/\x.val=.string (bs v)
 | [],_,x,h=>by cases h
 |e :: r,n,x,h=>by
  rcases aQ.1 h with rfl|h
  ·exact ⟨e.1,e.2,rfl,rfl⟩
  ·exact xE r (n+1) x h
theorem DY {seen:Array Nat} {e:MapEntry}:∀{l:List MapEntry},(l.map (·.born)).Nodup->e∈l->seen.contains e.born=false->
  ((l.filter λx=>!(seen.push e.born).contains x.born).map uz).sum+uz e=((l.filter λx=>!seen.contains x.born).map uz).sum/\(l.filter λx=>!(seen.push e.born).contains x.born).length+1=(l.filter λx=>!seen.contains x.born).length
 | [],_,h,_=>by cases h
 |a :: r,hn,h,hs=>by
  rw [bB,List.nodup_cons] at hn;obtain ⟨qX,hn2⟩:=hn;by_cases ha:a=e
  ·subst ha
   have hr:r.filter (λx=>!(seen.push a.born).contains x.born)=r.filter (λx=>!seen.contains x.born):=by
    apply List.filter_congr;intro x hx;have hne:x.born≠a.born:=λe'=>qX (e' ▸ aU.2 ⟨x,hx,rfl⟩)
    simp [hne]
   have h1:(!(seen.push a.born).contains a.born)=false:=by simp
   have h2:(!seen.contains a.born)=true:=by rw [hs];rfl
   rw [bu,bu,h1,h2,hr];simp;omega
  ·have he:e∈r:=by rcases aQ.1 h with h|h;exact absurd h.symm ha;exact h
   obtain ⟨i1,i2⟩:=DY hn2 he hs;have hne:a.born≠e.born:=λe'=>qX (e' ▸ aU.2 ⟨e,he,rfl⟩)
   have h1:(!(seen.push e.born).contains a.born)=(!seen.contains a.born):=by simp [hne]
   rw [bu,bu,h1];cases (!seen.contains a.born) with
   |false=>exact ⟨by simpa using i1,by simpa using i2⟩
   |true=>
    simp only [if_true,bB,List.sum_cons,aY];omega
def R6 (w:World) (b r:Nat) (fs:Files) (s cnt:Nat):Prop:=
 ∃seen c0,Fs w b fs/\w.heap[r]? =some (.mapIter (some b) fs.length seen c0)/\fs.length<=c0/\(((fN 0 fs).filter λx=>!seen.contains x.born).map uz).sum=s/\((fN 0 fs).filter λx=>!seen.contains x.born).length=cnt
theorem tF (fs:Files) (seen:Array Nat):(leftOf (fN 0 fs).toArray seen).toList=(fN 0 fs).filter λx=>!seen.contains x.born:=by
 unfold leftOf;simp
theorem R6.left {r s cnt:Nat} (h:R6 w b r fs s cnt):w.rangeLeft b r=cnt:=by
 obtain ⟨seen,c0,hb,hr,_,_,hc⟩:=h;unfold World.rangeLeft;unfold Fs uy at hb;rw [hb,hr];simp only;rw [<-hc,<-tF,cC]
theorem R6.next {r s cnt:Nat} (h:R6 w b r fs s cnt) (ty:TypeId):
  (cnt=0/\s=0/\(Instr.next (.pointer (some r)) false ty).run P w=.ok (.tuple #[false]) w)\/
  ∃k v w',v.length<=s/\0 < cnt/\(Instr.next (.pointer (some r)) false ty).run P w=.ok (.tuple #[true,.string (bs k),.string (bs v)]) w'/\R6 w' b r fs (s - v.length) (cnt - 1)/\w.grownBy w' (some r)/\
   (Instr.entry (.pointer (some r))).run P w'=.ok (.tuple #[.string (bs k),.string (bs v)]) w':=by
 obtain ⟨seen,c0,hb,hr,hle,hs,hc⟩:=h;have vQ:b≠r:=by rintro rfl;unfold Fs uy at hb;rw [hb] at hr;cases hr
 rcases run_next_at (P:=P) w ty r b fs.length c0 seen (fN 0 fs).toArray fs.length hr hb (λx hx=>NY (by simpa using hx)) hle with ⟨h0,hrun⟩| ⟨e,he,w1,hal,hrun⟩
 ·have hnil:(fN 0 fs).filter (λx=>!seen.contains x.born)=[]:=by
   rw [<-tF];exact az (by rw [cC];exact h0)
  rw [hnil] at hs hc;exact .inl ⟨by rw [<-hc];rfl,by rw [<-hs];rfl,hrun⟩
 ·rw [tF,List.mem_filter] at he
  obtain ⟨hem,Ml⟩:=he;have aej:seen.contains e.born=false:=by simpa using Ml
  obtain ⟨k,v,hk,hv⟩:=xE fs 0 e hem;obtain ⟨s1,s2⟩:=DY (uL fs) hem aej;rw [hs] at s1;rw [hc] at s2;have hvl:uz e=v.length:=by unfold uz;rw [hv];simp [dR]
  rw [hvl] at s1;have Eu:w1.heap[r]? =some (.mapIter (some b) fs.length seen c0):=by rcases hal with rfl|rfl <;> exact hr
  have gw:=MapKept.heap_set (o':=.mapIter (some b) fs.length (seen.push e.born) fs.length) Eu;have hb':Fs (setBlock w1 r (.mapIter (some b) fs.length (seen.push e.born) fs.length)) b fs:=(gw.2 b (λe1=>vQ e1)).trans (by rcases hal with rfl|rfl <;> exact hb);rw [hk,hv] at hrun;refine .inr ⟨k,v,_,by omega,by omega,hrun,⟨seen.push e.born,fs.length,hb',gw.1,aB _,by omega,by omega⟩,?_,?_⟩
  ·have hg1:w.grownBy w1 (some r):=by rcases hal with rfl|rfl;exact dz _ _;exact kQ (dz _ _)
   exact fJ hg1 ⟨rfl,rfl,rfl,by simp [setBlock],λi _ hne=>gw.2 i (λe=>hne (by rw [e]))⟩
  ·have:=run_entry_at (P:=P) _ r b fs.length seen (fN 0 fs).toArray fs.length e gw.1 hb' (by simpa using hem) (by simpa using uL fs)
   rw [hk,hv] at this;exact this
theorem Fs.range (hm:P.underlying mt=some (.map kt et)) (h:Fs w b fs):
  ∃w',(Instr.range mt (.map (some b))).run P w=.ok (.pointer (some w)) w'/\R6 w' b w fs (tot fs) fs.length/\Below w w w':=by
 have hlt:=h.lt;refine ⟨_,run_range_map w mt kt et b _ _ hm h,⟨#[],fs.length,h.alloc _,heap_alloc_new w _,aB _,?_,?_⟩,(aC _ w).alloc (aB _) _⟩
 ·rw [<-AJ fs 0];congr 2;simp
 ·have:(fN 0 fs).filter (λx=>!(#[]:Array Nat).contains x.born)=fN 0 fs:=by simp
  rw [this];have:=congrArg List.length (nO fs 0);simpa using this
end
end Fm
namespace Dk
open Go.RowKit Fm
theorem j9 (b:Nat) (fs:Files) (w:World) (hb:Fs w b fs):
  Calls prog 211 #[.map (some b)] w λe w'=>e=.returned (.map (some w.heap.size))/\w'=w.alloc (uy fs):=by
 have hq:=λw=>run_eql_map_nil_sl (P:=prog) w 191 _ _ (some b) underlying191
 go_enter func211,ntmps211;go_wp2;rw [run_callFunc_extern func283 (by kernel_rfl) (by kernel_rfl) (by kernel_rfl) (e:=Extern.MapsClone.clone) (by kernel_rfl),run_maps_clone_sl w 191 hb];simp only [Result.andThen];rw [Oper.upon_value];go_wp2;rw [run_typeAssert_map_sl _ 191 20 _ _ _ underlying191];simp only [Result.andThen];rw [Oper.upon_value];go_wp2;go_ret;exact ⟨rfl,rfl⟩
section
variable {P:Program} (w:World) {ops:Array Oper} {rest:List Oper} {o:Oper} {a:Act} {Q:Exit->Act->World->Prop}
theorem vA (hg:o.guard=none) (m:Operand) (t k e:TypeId) (hop:o.op=Op.range t m) (ht:P.underlying t=some (.map k e)) (b:Nat) (fs:Files) (hm:a.eval m=.map (some b)) (h:Fs w b fs)
  (hK:∀w',R6 w' b w fs (tot fs) fs.length->Below w w w'->wpList P ops Q rest (a.put o.dst (.pointer (some w))) w'):
  wpList P ops Q (o :: rest) a w:=by
 refine wpList_plain hg λK' BC=>?_
 obtain ⟨w',hrun,r1,r2⟩:=h.range ht;unfold Oper.wp;simp [execOp,hop,hm,hrun,Result.andThen];exact BC _ _ (hK w' r1 r2)
theorem wpList_next_fs (hg:o.guard=none) (it:Operand) (hop:o.op=Op.next it false) (b r:Nat) (fs:Files) (s cnt:Nat) (hit:a.eval it=.pointer (some r)) (h:R6 w b r fs s cnt)
  (hDone:cnt=0->s=0->wpList P ops Q rest (a.put o.dst (.tuple #[false])) w)
  (hMore:∀k v w',v.length<=s->0 < cnt->R6 w' b r fs (s - v.length) (cnt - 1)->w.grownBy w' (some r)->(Instr.entry (.pointer (some r))).run P w'=.ok (.tuple #[.string (bs k),.string (bs v)]) w'->
   wpList P ops Q rest (a.put o.dst (.tuple #[true,.string (bs k),.string (bs v)])) w'):
  wpList P ops Q (o :: rest) a w:=by
 refine wpList_plain hg λK' BC=>?_
 unfold Oper.wp;rcases h.next (P:=P) o.type with ⟨h0,h1,hrun⟩| ⟨k,v,w',h0,h1,hrun,h2,h3,h4⟩
 ·simp [execOp,hop,hit,hrun,Result.andThen]
  exact BC _ _ (hDone h0 h1)
 ·simp [execOp,hop,hit,hrun,Result.andThen]
  exact BC _ _ (hMore k v w' h0 h1 h2 h3 h4)
end
theorem NZ (d b:Nat) (cs:Array Value) (fs:Files) (w:World) (hd:Blk w d 194 cs) (hc:cs[1]? =some (.map (some b))) (hb:Fs w b fs) (ht:tot fs<=1000000000):
  Calls prog 419 #[Qp d] w (dM w (.int .i64 (tot fs:Nat))):=by
 have hc1:w.cell? (Qc d 1)=some (.map (some b)):=(hd.cell 1).trans hc;go_enter func419,ntmps419;go_wp2_with (at_range;refine vA _ rfl _ 191 _ _ rfl underlying191 b fs rfl hb ?_;intro w1 Eu dV)
 go_frame;have HB:=dL dV;clear dV hc1 hc hd hb;go_loopw [3] (λsl wr=>∃(s cnt acc:Nat),sl=.int .i64 (acc:Nat)/\acc+s=tot fs/\R6 wr b w fs s cnt/\Below w w wr) (λ_ wr=>wr.rangeLeft b w)
 case atStart=>exact ⟨tot fs,fs.length,0,rfl,by omega,Eu,HB.o⟩
 case round=>
  obtain ⟨s,cnt,acc,rfl,hs,FZ,hbx⟩:=hrel;have hl:=FZ.left;have HBX:=dL hbx;have HS:=dL hs;clear hbx hs;go_wp2_with (at_next;refine wpList_next_fs _ rfl _ rfl b w fs s cnt rfl FZ ?_ ?_)
  ·intro h0 h1
   go_wp2_with fail;go_ret;exact ⟨IZ (by have:=HS.o;omega),HBX.o⟩
  ·intro k v w2 hv agS zl hg2 ME
   go_wp2_with fail;refine ⟨⟨s - v.length,cnt - 1,acc+v.length,?_,by have:=HS.o;omega,zl,HBX.o.grown hg2 HBX.o.size (λj hj=>by cases hj;exact aB _)⟩,by rw [zl.left,hl];omega⟩;have:=HS.o;rw [dR];have hw:wrap64 ((acc:Int)+v.length)=((acc+v.length:Nat):Int):=by unfold wrap64;omega
   rw [hw]
end Dk
end Go.Proofs.YtgdaahffmcfhpaaGreatDoor
