/- Lemmas on the way: Fs KMp. -/
import Derived.Maps.Range
import Derived.Shelf.SlMaps.Clone
import Derived.Maps.RangeWalk
import Derived.Test.YtgdaahffmcfhpaaGreatDoorT01
import Derived.Test.YtgdaahffmcfhpaaGreatDoorT00
set_option maxRecDepth 100000
set_option maxHeartbeats 8000000
namespace Go.Proofs.YtgdaahffmcfhpaaGreatDoor
open Tryz
namespace Fm
open Go.RowKit
open Go.ChangeMaps (setBlock)
abbrev Bytes:=List UInt8
abbrev Files:=List (Bytes×Bytes)
def Em (n:Nat) (e:Bytes×Bytes):MapEntry:={ key:=.string (bs e.1),val:=.string (bs e.2),born:=n }
def fC:Nat->Files->List MapEntry
 |_,[]=>[]
 |n,e :: r=>Em n e :: fC (n+1) r
def tq (fs:Files):Obj:=.map (fC 0 fs).toArray fs.length
def Fs (w:World) (b:Nat) (fs:Files):Prop:=w.heap[b]? =some (tq fs)
def place:Files->Bytes->Option (Nat×Bytes)
 | [],_=>none
 |e :: r,k=>if e.1=k then some (0,e.2) else (place r k).map fun p=>(p.1+1,p.2)
def get (fs:Files) (k:Bytes):Option Bytes:=(place fs k).map (·.2)
def put:Files->Bytes->Bytes->Files
 | [],k,v=>[(k,v)]
 |e :: r,k,v=>if e.1=k then (k,v) :: r else e :: put r k v
def tot (fs:Files):Nat:=(fs.map (·.2.length)).sum
theorem pW (a b:Bytes):(bs a ==bs b)=decide (a=b):=by
 show ((bs a).data ==(bs b).data)=_;rw [Bool.eq_iff_iff];simp [bs]
section
variable {P:Program} {w w':World} {b n:Nat} {fs:Files}
theorem Fs.lt (h:Fs w b fs):b < w.heap.size:=by
 rcases aG b w.heap.size with hlt|hge
 ·exact hlt
 ·unfold Fs at h;rw [ak hge] at h;cases h
theorem Fs.below (h:Fs w b fs) (hb:Below w.heap.size w w'):Fs w' b fs:=hb.block b h.lt|>.trans h
theorem Fs.grown {row:Option Nat} (h:Fs w b fs) (hb:w.grownBy w' row) (hg:some b≠row):Fs w' b fs:=(hb.block b h.lt hg).trans h
theorem Fs.alloc (h:Fs w b fs) (o:Obj):Fs (w.alloc o) b fs:=(bE w o b h.lt).trans h
theorem Fs.new (w:World):Fs (w.alloc (.map #[] 0)) w.heap.size []:=heap_alloc_new w _
theorem Fs.ne_blk (h:Fs w b fs) {g:Nat} {t:TypeId} {cs:Array Value} (hg:Blk w g t cs):b≠g:=by
 rintro rfl;unfold Fs Blk at*;rw [h] at hg;cases hg
theorem Gd (k:Bytes):∀(fs:Files) (n i:Nat),Instr.findNow .string (.string (bs k)) (fC n fs) i=some ((place fs k).map fun p=>(i+p.1,.string (bs p.2)))
 | [],_,_=>rfl
 |e :: r,n,i=>by
  have ih:=Gd k r (n+1) (i+1);simp only [fC,Instr.findNow,Em,Instr.sameNow,place];by_cases h:e.1=k
  ·subst h;simp [pW]
  ·have:(bs k ==bs e.1)=false:=by
    rw [pW];simpa using fun h'=>h (Eq.symm h')
   rw [this,if_neg h];simp only;rw [ih];cases place r k with
   |none=>rfl
   |some p=>simp;omega
theorem vW {kt:TypeId} (hk:P.underlying kt=some .string) (k:Bytes) (w:World) (fs:Files):
  (Instr.findKey kt (.string (bs k)) (fC 0 fs)).run P w=.ok ((place fs k).map fun p=>(p.1,.string (bs p.2))) w:=by
 unfold Instr.findKey;simp only [Sem.run_bind,run_underlying hk,Result.andThen_ok,Gd,Sem.run_pure,aY]
theorem rj {kt:TypeId} (hk:P.underlying kt=some .string) (k:Bytes) (e:Bool) (w:World):(Instr.checkKey e 10000 kt (.string (bs k))).run P w=.ok () w:=by
 unfold Instr.checkKey;simp only [Sem.run_bind,run_underlying hk,Result.andThen_ok,Sem.run_pure]
theorem CO {et:TypeId} (hz:∀w,(zeroValue et).run P w=.ok (.string ⟨#[]⟩) w) (w:World):(zeroValue et).run P w=.ok (.string (bs [])) w:=hz w
theorem Fs.look {mt kt et:TypeId} (hm:P.underlying mt=some (.map kt et)) (hk:P.underlying kt=some .string) (hz:∀w,(zeroValue et).run P w=.ok (.string ⟨#[]⟩) w) (h:Fs w b fs) (k:Bytes):
  (Instr.lookup mt (.map (some b)) (.string (bs k)) false).run P w=.ok (.string (bs ((get fs k).getD []))) w:=by
 have nY:=vW (P:=P) hk k w fs;simp only [Instr.lookup,Sem.run_bind,run_underlying hm,Go.MapKept.run_getObj_map h,Sem.run_pure,Result.andThen_ok,rj hk,nY];unfold get;cases place fs k with
 |none=>simp [CO hz]
 |some p=>simp
theorem Fs.look2 {mt kt et:TypeId} (hm:P.underlying mt=some (.map kt et)) (hk:P.underlying kt=some .string) (hz:∀w,(zeroValue et).run P w=.ok (.string ⟨#[]⟩) w) (h:Fs w b fs) (k:Bytes):
  (Instr.lookup mt (.map (some b)) (.string (bs k)) true).run P w=.ok (.tuple #[.string (bs ((get fs k).getD [])),.bool (get fs k).isSome]) w:=by
 have nY:=vW (P:=P) hk k w fs;simp only [Instr.lookup,Sem.run_bind,run_underlying hm,Go.MapKept.run_getObj_map h,Sem.run_pure,Result.andThen_ok,rj hk,nY];unfold get;cases place fs k with
 |none=>simp [CO hz]
 |some p=>simp
theorem qj:∀(fs gs:Files) (n:Nat),fC n (fs++gs)=fC n fs++fC (n+fs.length) gs
 | [],_,_=>rfl
 |e :: r,gs,n=>by simp only [aq,fC,qj r gs (n+1),aQ];congr 3;omega
theorem Ge:∀{fs:Files} {k:Bytes},place fs k=none->∀v,put fs k v=fs++[(k,v)]
 | [],_,_,_=>rfl
 |e :: r,k,h,v=>by
  unfold place at h;by_cases c:e.1=k
  ·rw [if_pos c] at h;cases h
  ·rw [if_neg c] at h
   have:place r k=none:=by
    cases hp:place r k with
    |none=>rfl
    |some p=>rw [hp] at h;cases h
   unfold put;rw [if_neg c,Ge this v];rfl
theorem Gf:∀{fs:Files} {k:Bytes} {i:Nat} {u:Bytes},place fs k=some (i,u)->∀(v:Bytes) (n:Nat),(fC n fs).modify i (fun e=>{ e with key:=.string (bs k),val:=.string (bs v) })=fC n (put fs k v)
 | [],_,_,_,h,_,_=>by cases h
 |e :: r,k,i,u,h,v,n=>by
  unfold place at h;unfold put;by_cases c:e.1=k
  ·rw [if_pos c] at h;cases h
   rw [if_pos c];simp [fC,Em]
  ·rw [if_neg c] at h ⊢
   cases hp:place r k with
   |none=>rw [hp] at h;cases h
   |some p=>
    rw [hp] at h;cases h;simp only [fC,List.modify_succ_cons];rw [Gf hp v (n+1)]
theorem vX:∀{fs:Files} {k:Bytes} {p:Nat×Bytes},place fs k=some p->∀v,(put fs k v).length=fs.length
 | [],_,_,h,_=>by cases h
 |e :: r,k,p,h,v=>by
  unfold place at h;unfold put;by_cases c:e.1=k
  ·rw [if_pos c];rfl
  ·rw [if_neg c] at h ⊢
   cases hp:place r k with
   |none=>rw [hp] at h;cases h
   |some q=>simp [vX hp v]
theorem yf:∀{fs:Files} {k:Bytes} {i:Nat} {u:Bytes} (n:Nat),place fs k=some (i,u)->((fC n fs)[i]?).map (·.key)=some (.string (bs k))
 | [],_,_,_,_,h=>by cases h
 |e :: r,k,i,u,n,h=>by
  unfold place at h;by_cases c:e.1=k
  ·rw [if_pos c] at h;cases h
   simp [fC,Em,c]
  ·rw [if_neg c] at h
   cases hp:place r k with
   |none=>rw [hp] at h;cases h
   |some p=>
    rw [hp] at h;cases h;simpa [fC] using yf (n+1) hp
theorem set_obj {w:World} {b:Nat} (o:Obj) {es:Array MapEntry} {c:Nat} (hb:w.heap[b]? =some (.map es c)):∃w',(setObj b o).run P w=.ok () w'/\w'.heap[b]? =some o/\w.grownBy w' (some b)/\w'.heap.size=w.heap.size:=
 ⟨_,Go.MapKept.run_setObj_map o hb,(Go.MapKept.heap_set hb).1,⟨rfl,rfl,rfl,by simp,fun i _ hne=>(Go.MapKept.heap_set hb).2 i (fun e=>hne (by rw [e]))⟩,by simp⟩
theorem Fs.store {mt kt et:TypeId} (hm:P.underlying mt=some (.map kt et)) (hk:P.underlying kt=some .string) (h:Fs w b fs) (k v:Bytes):
  ∃w',(Instr.mapUpdate mt (.map (some b)) (.string (bs k)) (.string (bs v))).run P w=.ok () w'/\Fs w' b (put fs k v)/\w.grownBy w' (some b)/\w'.heap.size=w.heap.size:=by
 obtain ⟨w',hr,h1,h2,h3⟩:=set_obj (P:=P) (tq (put fs k v)) h;refine ⟨w',?_,h1,h2,h3⟩;have nY:=vW (P:=P) hk k w fs;simp only [Instr.mapUpdate,Sem.run_bind,run_underlying hm,Go.MapKept.run_getObj_map h,Result.andThen_ok,rj hk,nY];cases hp:place fs k with
 |none=>
  have e:(tq (put fs k v))=.map ((fC 0 fs).toArray.push { key:=.string (bs k),val:=.string (bs v),born:=fs.length }) (fs.length+1):=by
   rw [Ge hp];simp [tq,qj,fC,Em]
  rw [e] at hr;simpa using hr
 |some p=>
  obtain ⟨i,u⟩:=p;have e:(tq (put fs k v))=.map ((fC 0 fs).toArray.modify i (fun e=>{ e with key:=.string (bs k),val:=.string (bs v) })) fs.length:=by
   unfold tq;rw [vX hp,<-Gf hp v 0];congr 1;apply Array.toList_inj.1;simp
  rw [e] at hr;have hkey:=yf 0 hp;have Yr:Instr.sameBits 10000 (.string (bs k)) (.string (bs k))=true:=by simp [Instr.sameBits,pW]
  have Ys:(Instr.keyThatStays (.string (bs k)) (.string (bs k))).run P w=.ok (.string (bs k)) w:=by unfold Instr.keyThatStays;rw [Yr];rfl
  simp only [bU,aP,hkey,Option.getD_some,Sem.run_bind,Ys,Result.andThen_ok,hr]
theorem mg:∀(fs:Files) (n:Nat),(fC n fs).map (·.born)=List.range' n fs.length
 | [],_=>rfl
 |e :: r,n=>by simp [fC,Em,mg r (n+1),List.range'_succ]
theorem sy (fs:Files):((fC 0 fs).map (·.born)).Nodup:=by rw [mg];exact List.nodup_range'
theorem Lg {fs:Files} {x:MapEntry} (h:x∈fC 0 fs):x.born < fs.length:=by
 have:x.born∈(fC 0 fs).map (·.born):=aV.2 ⟨x,h,rfl⟩;rw [mg] at this;simpa using List.mem_range'_1.1 this
def tu (e:MapEntry):Nat:=match e.val with| .string s=>s.size|_=>0
theorem yg:∀(fs:Files) (n:Nat),((fC n fs).map tu).sum=tot fs
 | [],_=>rfl
 |e :: r,n=>by simp only [fC,ai,List.sum_cons,yg r (n+1),tot];simp [tu,Em,dO]
theorem vY:∀(fs:Files) (n:Nat),∀x∈fC n fs,∃k v,x.key=.string (bs k)/\x.val=.string (bs v)
 | [],_,x,h=>by cases h
 |e :: r,n,x,h=>by
  rcases aR.1 h with rfl|h
  ·exact ⟨e.1,e.2,rfl,rfl⟩
  ·exact vY r (n+1) x h
theorem CP {seen:Array Nat} {e:MapEntry}:∀{l:List MapEntry},(l.map (·.born)).Nodup->e∈l->seen.contains e.born=false->
  ((l.filter fun x=>!(seen.push e.born).contains x.born).map tu).sum+tu e=((l.filter fun x=>!seen.contains x.born).map tu).sum/\(l.filter fun x=>!(seen.push e.born).contains x.born).length+1=(l.filter fun x=>!seen.contains x.born).length
 | [],_,h,_=>by cases h
 |a :: r,hn,h,hs=>by
  rw [ai,List.nodup_cons] at hn;obtain ⟨oz,hn2⟩:=hn;by_cases ha:a=e
  ·subst ha
   have hr:r.filter (fun x=>!(seen.push a.born).contains x.born)=r.filter (fun x=>!seen.contains x.born):=by
    apply List.filter_congr;intro x hx;have hne:x.born≠a.born:=fun e'=>oz (e' ▸ aV.2 ⟨x,hx,rfl⟩)
    simp [hne]
   have h1:(!(seen.push a.born).contains a.born)=false:=by simp
   have h2:(!seen.contains a.born)=true:=by rw [hs];rfl
   rw [bZ,bZ,h1,h2,hr];simp;omega
  ·have he:e∈r:=by rcases aR.1 h with h|h;exact absurd h.symm ha;exact h
   obtain ⟨i1,i2⟩:=CP hn2 he hs;have hne:a.born≠e.born:=fun e'=>oz (e' ▸ aV.2 ⟨e,he,rfl⟩)
   have h1:(!(seen.push e.born).contains a.born)=(!seen.contains a.born):=by simp [hne]
   rw [bZ,bZ,h1];cases (!seen.contains a.born) with
   |false=>exact ⟨by simpa using i1,by simpa using i2⟩
   |true=>
    simp only [if_true,ai,List.sum_cons,aQ];omega
def P5 (w:World) (b r:Nat) (fs:Files) (s cnt:Nat):Prop:=
 ∃seen c0,Fs w b fs/\w.heap[r]? =some (.mapIter (some b) fs.length seen c0)/\fs.length<=c0/\(((fC 0 fs).filter fun x=>!seen.contains x.born).map tu).sum=s/\((fC 0 fs).filter fun x=>!seen.contains x.born).length=cnt
theorem rm (fs:Files) (seen:Array Nat):(leftOf (fC 0 fs).toArray seen).toList=(fC 0 fs).filter fun x=>!seen.contains x.born:=by
 unfold leftOf;simp
theorem P5.left {r s cnt:Nat} (h:P5 w b r fs s cnt):w.rangeLeft b r=cnt:=by
 obtain ⟨seen,c0,hb,hr,_,_,hc⟩:=h;unfold World.rangeLeft;unfold Fs tq at hb;rw [hb,hr];simp only;rw [<-hc,<-rm,bp]
theorem P5.next {r s cnt:Nat} (h:P5 w b r fs s cnt) (ty:TypeId):
  (cnt=0/\s=0/\(Instr.next (.pointer (some ⟨r,0,none⟩)) false ty).run P w=.ok (.tuple #[.bool false]) w)\/
  ∃k v w',v.length<=s/\0 < cnt/\(Instr.next (.pointer (some ⟨r,0,none⟩)) false ty).run P w=.ok (.tuple #[.bool true,.string (bs k),.string (bs v)]) w'/\P5 w' b r fs (s - v.length) (cnt - 1)/\w.grownBy w' (some r)/\
   (Instr.entry (.pointer (some ⟨r,0,none⟩))).run P w'=.ok (.tuple #[.string (bs k),.string (bs v)]) w':=by
 obtain ⟨seen,c0,hb,hr,hle,hs,hc⟩:=h;have qS:b≠r:=by rintro rfl;unfold Fs tq at hb;rw [hb] at hr;cases hr
 rcases run_next_at (P:=P) w ty r b fs.length c0 seen (fC 0 fs).toArray fs.length hr hb (fun x hx=>Lg (by simpa using hx)) hle with ⟨h0,hrun⟩| ⟨e,he,w1,eN,hrun⟩
 ·have hnil:(fC 0 fs).filter (fun x=>!seen.contains x.born)=[]:=by
   rw [<-rm];exact bH (by rw [bp];exact h0)
  rw [hnil] at hs hc;exact .inl ⟨by rw [<-hc];rfl,by rw [<-hs];rfl,hrun⟩
 ·rw [rm,List.mem_filter] at he
  obtain ⟨hem,Bk⟩:=he;have abb:seen.contains e.born=false:=by simpa using Bk
  obtain ⟨k,v,hk,hv⟩:=vY fs 0 e hem;obtain ⟨s1,s2⟩:=CP (sy fs) hem abb;rw [hs] at s1;rw [hc] at s2;have hvl:tu e=v.length:=by unfold tu;rw [hv];simp [dO]
  rw [hvl] at s1;have Dj:w1.heap[r]? =some (.mapIter (some b) fs.length seen c0):=by rcases eN with rfl|rfl <;> exact hr
  have gR:=MapKept.heap_set (o':=.mapIter (some b) fs.length (seen.push e.born) fs.length) Dj;have hb':Fs (setBlock w1 r (.mapIter (some b) fs.length (seen.push e.born) fs.length)) b fs:=(gR.2 b (fun e1=>qS e1)).trans (by rcases eN with rfl|rfl <;> exact hb);rw [hk,hv] at hrun;refine .inr ⟨k,v,_,by omega,by omega,hrun,⟨seen.push e.born,fs.length,hb',gR.1,aB _,by omega,by omega⟩,?_,?_⟩
  ·have hg1:w.grownBy w1 (some r):=by rcases eN with rfl|rfl;exact dx _ _;exact jv (dx _ _)
   exact fT hg1 ⟨rfl,rfl,rfl,by simp [setBlock],fun i _ hne=>gR.2 i (fun e=>hne (by rw [e]))⟩
  ·have:=run_entry_at (P:=P) _ r b fs.length seen (fC 0 fs).toArray fs.length e gR.1 hb' (by simpa using hem) (by simpa using sy fs)
   rw [hk,hv] at this;exact this
theorem Fs.range {mt kt et:TypeId} (hm:P.underlying mt=some (.map kt et)) (h:Fs w b fs):
  ∃w',(Instr.range mt (.map (some b))).run P w=.ok (.pointer (some ⟨w.heap.size,0,none⟩)) w'/\P5 w' b w.heap.size fs (tot fs) fs.length/\Below w.heap.size w w':=by
 have hlt:=h.lt;refine ⟨_,run_range_map w mt kt et b _ _ hm h,⟨#[],fs.length,h.alloc _,heap_alloc_new w _,aB _,?_,?_⟩,(aC _ w).alloc (aB _) _⟩
 ·rw [<-yg fs 0];congr 2;simp
 ·have:(fC 0 fs).filter (fun x=>!(#[]:Array Nat).contains x.born)=fC 0 fs:=by simp
  rw [this];have:=congrArg List.length (mg fs 0);simpa using this
end
end Fm
namespace Dk
open Go.RowKit Fm
theorem iR (b:Nat) (fs:Files) (w:World) (hb:Fs w b fs):
  Calls prog 211 #[.map (some b)] w fun e w'=>e=.returned (.map (some w.heap.size))/\w'=w.alloc (tq fs):=by
 have hq:=fun w=>run_eql_map_nil_sl (P:=prog) w 191 _ _ (some b) underlying191
 go_enter func211,ntmps211;go_wp2;rw [run_callFunc_extern func283 (by kernel_rfl) (by kernel_rfl) (by kernel_rfl) (e:=Extern.MapsClone.clone) (by kernel_rfl),run_maps_clone_sl w 191 hb];simp only [Result.andThen];rw [Oper.upon_value];go_wp2;rw [run_typeAssert_map_sl _ 191 20 _ _ _ underlying191];simp only [Result.andThen];rw [Oper.upon_value];go_wp2;go_ret;exact ⟨rfl,rfl⟩
section
variable {P:Program} (w:World) {ops:Array Oper} {rest:List Oper} {o:Oper} {a:Act} {Q:Exit->Act->World->Prop}
theorem tv (hg:o.guard=none) (m:Operand) (t k e:TypeId) (hop:o.op=Op.range t m) (ht:P.underlying t=some (.map k e)) (b:Nat) (fs:Files) (hm:a.eval m=.map (some b)) (h:Fs w b fs)
  (hK:∀w',P5 w' b w.heap.size fs (tot fs) fs.length->Below w.heap.size w w'->wpList P ops Q rest (a.put o.dst (.pointer (some ⟨w.heap.size,0,none⟩))) w'):
  wpList P ops Q (o :: rest) a w:=by
 refine wpList_plain hg fun K' zh=>?_
 obtain ⟨w',hrun,r1,r2⟩:=h.range ht;unfold Oper.wp;simp [execOp,hop,hm,hrun,Result.andThen];exact zh _ _ (hK w' r1 r2)
theorem wpList_next_fs (hg:o.guard=none) (it:Operand) (hop:o.op=Op.next it false) (b r:Nat) (fs:Files) (s cnt:Nat) (hit:a.eval it=.pointer (some ⟨r,0,none⟩)) (h:P5 w b r fs s cnt)
  (hDone:cnt=0->s=0->wpList P ops Q rest (a.put o.dst (.tuple #[.bool false])) w)
  (hMore:∀k v w',v.length<=s->0 < cnt->P5 w' b r fs (s - v.length) (cnt - 1)->w.grownBy w' (some r)->(Instr.entry (.pointer (some ⟨r,0,none⟩))).run P w'=.ok (.tuple #[.string (bs k),.string (bs v)]) w'->
   wpList P ops Q rest (a.put o.dst (.tuple #[.bool true,.string (bs k),.string (bs v)])) w'):
  wpList P ops Q (o :: rest) a w:=by
 refine wpList_plain hg fun K' zh=>?_
 unfold Oper.wp;rcases h.next (P:=P) o.type with ⟨h0,h1,hrun⟩| ⟨k,v,w',h0,h1,hrun,h2,h3,h4⟩
 ·simp [execOp,hop,hit,hrun,Result.andThen]
  exact zh _ _ (hDone h0 h1)
 ·simp [execOp,hop,hit,hrun,Result.andThen]
  exact zh _ _ (hMore k v w' h0 h1 h2 h3 h4)
end
theorem Lh (d b:Nat) (cs:Array Value) (fs:Files) (w:World) (hd:Blk w d 194 cs) (hc:cs[1]? =some (.map (some b))) (hb:Fs w b fs) (ht:tot fs<=1000000000):
  Calls prog 419 #[.pointer (some ⟨d,0,none⟩)] w (dJ w (.int .i64 (tot fs:Nat))):=by
 have hc1:w.cell? ⟨d,1,none⟩=some (.map (some b)):=(hd.cell 1).trans hc;go_enter func419,ntmps419;go_wp2_with (at_range;refine tv _ rfl _ 191 _ _ rfl underlying191 b fs rfl hb ?_;intro w1 Dj dR)
 go_frame;have HB:=dH dR;clear dR hc1 hc hd hb;go_loopw [3] (fun sl wr=>∃(s cnt acc:Nat),sl=.int .i64 (acc:Nat)/\acc+s=tot fs/\P5 wr b w.heap.size fs s cnt/\Below w.heap.size w wr) (fun _ wr=>wr.rangeLeft b w.heap.size)
 case atStart=>exact ⟨tot fs,fs.length,0,rfl,by omega,Dj,HB.o⟩
 case round=>
  obtain ⟨s,cnt,acc,rfl,hs,tg,hbx⟩:=hrel;have hl:=tg.left;have HBX:=dH hbx;have HS:=dH hs;clear hbx hs;go_wp2_with (at_next;refine wpList_next_fs _ rfl _ rfl b w.heap.size fs s cnt rfl tg ?_ ?_)
  ·intro h0 h1
   go_wp2_with fail;go_ret;exact ⟨GS (by have:=HS.o;omega),HBX.o⟩
  ·intro k v w2 hv adu pI hg2 Oh
   go_wp2_with fail;refine ⟨⟨s - v.length,cnt - 1,acc+v.length,?_,by have:=HS.o;omega,pI,HBX.o.grown hg2 HBX.o.size (fun j hj=>by cases hj;exact aB _)⟩,by rw [pI.left,hl];omega⟩;have:=HS.o;rw [dO];have hw:wrap64 ((acc:Int)+v.length)=((acc+v.length:Nat):Int):=by unfold wrap64;omega
   rw [hw]
end Dk
end Go.Proofs.YtgdaahffmcfhpaaGreatDoor
