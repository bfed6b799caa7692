/- Lemmas on the way: OpensG Qa Op. -/
import Derived.ProofKit
import Derived.OpenShut
import Derived.Deep.Strs
import Derived.Test.YtgdaahffmcfhpaaGreatDoorT43
import Derived.Test.YtgdaahffmcfhpaaGreatDoorT00
set_option maxRecDepth 100000
set_option maxHeartbeats 8000000
namespace Go.Proofs.YtgdaahffmcfhpaaGreatDoor
open Tryz
namespace Opens
open Go.ChangeShapes Go.WideShapes Go.ChangeAt Go.RowKit
section
variable {H:Type} {enc:TypeId×Value->H} {P:Program} {w:World}
theorem YV {α:Type} [Inhabited α] {size:Nat} (hs:0 < size) {R:List Value->α->Prop} {t e:TypeId} {fuel:Nat} {cs:List Value} {x:DataW H×List MemPlace} (ht:P.underlying t=some (.slice e)) (hc:P.cellsOf e=size)
  (P4:∀n cs x,DataW.trod enc P w 0 (fun _=>true) true n e cs=some x->∃y,R cs y) (h:DataW.trod enc P w 0 (fun _=>true) true fuel t cs=some x):
  ∃A n c xs,cs=[.slice A n c]/\Sl w size R A n c xs:=by
 rcases Go.Deep.open_slice ht h with ⟨rfl,_⟩| ⟨a,len,cap,m,n,D,Pl,rfl,_,hl,hm,hmm,_,hx⟩
 ·exact ⟨none,0,0,[],rfl,Sl.nil_⟩
 simp only [if_true] at hmm;obtain ⟨f,hf⟩:=Go.Deep.choose_lt (n:=len) (p:=fun i y=>∃cs',w.cells? 0 (a.add (i*P.cellsOf e)) (P.cellsOf e)=some cs'/\R cs' y) (fun i hi=>by
  obtain ⟨cs',h1,h2⟩:=hx i (by omega);obtain ⟨y,hy⟩:=P4 _ _ _ h2;exact ⟨y,cs',h1,hy⟩)
 refine ⟨some a,len,cap,(List.range len).map f,rfl,by simp,hl,by unfold maxLen at hm;omega,fun i hi=>?_⟩;have hi':i < len:=by simpa using hi
 obtain ⟨cs',h1,hy⟩:=hf i hi';obtain ⟨_,hlen,hcell⟩:=World.cells?_some h1;rw [hc] at hlen hcell;obtain ⟨b,off,spot⟩:=a;have h0:=hcell 0 hs;rw [bf (by omega)] at h0;have hsp:spot=none:=by
  obtain ⟨cs0,h1,_⟩:=hf 0 (by omega);obtain ⟨_,hlen,hcell⟩:=World.cells?_some h1;rw [hc] at hlen hcell;have h0:=hcell 0 hs;rw [bf (by omega),pV] at h0;have:=World.cell?_spot h0;simpa [Addr.add] using this
 subst hsp;have lF:∀j,(Addr.mk b off none).add j= ⟨b,off+j,none⟩:=fun j=>by unfold Addr.add;split <;> simp_all
 refine ⟨b,off,cs',rfl,?_,hlen,by simpa using hy,fun j u hu=>?_⟩
 ·rcases aG b w.heap.size with h|h
  ·exact h
  ·rw [pV,lF] at h0
   simp [World.cell?,ak h] at h0
 ·have hj:j < size:=by
   rcases aG j size with h|h
   ·exact h
   ·rw [bI (by omega)] at hu;cases hu
  have:=hcell j hj;rw [pV,lF,hu] at this;rw [<-this];congr 2;omega
theorem B9 {e:TypeId} (he:P.underlying e=some (.int .i64)):∀n cs x,DataW.trod enc P w 0 (fun _=>true) true n e cs=some x->∃y,ES cs y:=by
 intro n cs x h;obtain ⟨y,rfl,_,hw⟩:=DataW.trod_int he h;refine ⟨y,rfl,?_⟩;have:=hw;simp [Lit.wf,IntKind.min,IntKind.max,IntKind.signed,IntKind.bits] at this;unfold nU;omega
theorem No {e ti:TypeId} {f0 f1:Field} (he:P.underlying e=some (.struct #[f0,f1])) (hc:P.cellsOf e=2) (h0:f0.type=ti) (h1:f1.type=ti) (o0:f0.offset=0) (o1:f1.offset=1) (pT:P.cellsOf ti=1) (hi:P.underlying ti=some (.int .i64)):
  ∀n cs x,DataW.trod enc P w 0 (fun _=>true) true n e cs=some x->∃y,Kw cs y:=by
 intro n cs x h;obtain ⟨y0,y1,m,_,hl,t0,t1⟩:=trod_struct2 he h;rw [hc] at hl;rw [h0,o0,pT] at t0;rw [h1,o1,pT] at t1
 match cs,hl with
 | [c0,c1],_=>
  obtain ⟨a,ea,ra⟩:=B9 hi _ _ _ t0;obtain ⟨b,eb,rb⟩:=B9 hi _ _ _ t1;simp at ea eb;exact ⟨(a,b),by simp [ea,eb],ra,rb⟩
end
section
variable {H:Type} {enc:TypeId×Value->H} {P:Program} {w:World}
def Sd (cs:List Value) (b:Bool):Prop:=cs=[.bool b]
def aaY (cs:List Value) (s:List UInt8):Prop:=cs=[.string ⟨s.toArray⟩]/\s.length<=9223372036854775807
theorem RJ {e:TypeId} (he:P.underlying e=some .bool):∀n cs x,DataW.trod enc P w 0 (fun _=>true) true n e cs=some x->∃y,Sd cs y:=by
 intro n cs x h;obtain ⟨y,rfl,_⟩:=DataW.trod_bool he h;exact ⟨y,rfl⟩
theorem Np {e:TypeId} (he:P.underlying e=some .string):∀n cs x,DataW.trod enc P w 0 (fun _=>true) true n e cs=some x->∃y,aaY cs y:=by
 intro n cs x h;obtain ⟨s,rfl,_,hw⟩:=DataW.trod_string he h;refine ⟨s.data.toList,by simp,?_⟩;unfold maxLen at hw;simpa using hw
theorem Ud {α:Type} [Inhabited α] {size:Nat} (hs:0 < size) {R:List Value->α->Prop} {t e:TypeId} (ht:P.underlying t=some (.slice e)) (hc:P.cellsOf e=size)
  (P4:∀n cs x,DataW.trod enc P w 0 (fun _=>true) true n e cs=some x->∃y,R cs y) {r:Reach} {b0:Nat} {v:Value} {d:DataW H} {p:List MemPlace} (hv:Value.okWide P w r b0 t v) (h:DataW.Trod enc P w 0 (fun _=>true) true t v d p):
  ∃A n c xs,v=.slice A n c/\Sl w size R A n c xs:=by
 obtain ⟨a,l,c,rfl⟩:=okWide_slice ht hv;obtain ⟨n,hn⟩:=h;obtain ⟨A,m,c,xs,e,hs⟩:=YV hs ht hc P4 hn;exact ⟨A,m,c,xs,by simpa [Value.cells] using e,hs⟩
end
end Opens
section
open Go.RowKit
attribute [local go_sem] dO dL dQ dM
end
namespace Opens
open Go.ChangeShapes Go.WideShapes Go.ChangeAt Go.RowKit
section
variable {H:Type} {enc:TypeId×Value->H} {w:World} {r:Reach} {b0:Nat} {v:Value} {d:DataW H} {p:List MemPlace}
theorem Hp:prog.cellsOf 32=11:=by kernel_rfl
theorem uc:prog.cellsOf 30=2:=by kernel_rfl
theorem Fu:prog.cellsOf 3=1:=by kernel_rfl
theorem Ue:prog.cellsOf 4=1:=by kernel_rfl
theorem Nq:prog.cellsOf 9=1:=by kernel_rfl
theorem Nr:∃f0 f1:Field,prog.underlying 30=some (.struct #[f0,f1])/\f0.type=3/\f1.type=3/\f0.offset=0/\f1.offset=1:=⟨_,_,underlying30,rfl,rfl,rfl,rfl⟩
theorem Ns:∃f0 f1 f2 f3 f4 f5 f6 f7:Field,prog.underlying 32=some (.struct #[f0,f1,f2,f3,f4,f5,f6,f7])/\(f0.type=30/\f1.type=3/\f2.type=3/\f3.type=30/\f4.type=4/\f5.type=30/\f6.type=9/\f7.type=9)/\(f0.offset=0/\f1.offset=2/\f2.offset=3/\f3.offset=4/\f4.offset=6/\f5.offset=7/\f6.offset=9/\f7.offset=10):=⟨_,_,_,_,_,_,_,_,underlying32,⟨rfl,rfl,rfl,rfl,rfl,rfl,rfl,rfl⟩,rfl,rfl,rfl,rfl,rfl,rfl,rfl,rfl⟩
theorem Nu:∀n cs x,DataW.trod enc prog w 0 (fun _=>true) true n 30 cs=some x->∃y,Kw cs y:=by
 obtain ⟨f0,f1,he,t0,t1,o0,o1⟩:=Nr;exact No he uc t0 t1 o0 o1 Fu underlying3
theorem YW:∀n cs x,DataW.trod enc prog w 0 (fun _=>true) true n 32 cs=some x->∃y,OpC cs y:=by
 intro n cs x h;obtain ⟨f0,f1,f2,f3,f4,f5,f6,f7,he,⟨t0,t1,t2,t3,t4,t5,t6,t7⟩,o0,o1,o2,o3,o4,o5,o6,o7⟩:=Ns;obtain ⟨xs,m,_,_,hl,hlen,hf⟩:=DataW.trod_struct he h;rw [Hp] at hl
 match xs,hlen with
 | [y0,y1,y2,y3,y4,y5,y6,y7],_=>
  have r0:=hf 0 f0 rfl;have r1:=hf 1 f1 rfl;have r2:=hf 2 f2 rfl;have r3:=hf 3 f3 rfl;have r4:=hf 4 f4 rfl;have r5:=hf 5 f5 rfl;have r6:=hf 6 f6 rfl;have r7:=hf 7 f7 rfl;rw [t0,o0,uc] at r0;rw [t1,o1,Fu] at r1;rw [t2,o2,Fu] at r2;rw [t3,o3,uc] at r3;rw [t4,o4,Ue] at r4;rw [t5,o5,uc] at r5;rw [t6,o6,Nq] at r6;rw [t7,o7,Nq] at r7
  match cs,hl with
  | [c0,c1,c2,c3,c4,c5,c6,c7,c8,c9,jt],_=>
   obtain ⟨a0,e0,_⟩:=Nu _ _ _ r0;obtain ⟨a1,e1,_⟩:=B9 underlying3 _ _ _ r1;obtain ⟨a2,e2,_⟩:=B9 underlying3 _ _ _ r2;obtain ⟨a3,e3,_⟩:=Nu _ _ _ r3;obtain ⟨a4,e4⟩:=RJ underlying4 _ _ _ r4;obtain ⟨a5,e5,_⟩:=Nu _ _ _ r5;obtain ⟨a6,e6,h6⟩:=Np underlying9 _ _ _ r6;obtain ⟨a7,e7,h7⟩:=Np underlying9 _ _ _ r7;simp [Sd] at e0 e1 e2 e3 e4 e5 e6 e7;exact ⟨⟨a0,a1,a2,a3,a4,a5,a6,a7⟩,by simp [oc,bs,e0,e1,e2,e3,e4,e5,e6,e7],h6,h7⟩
theorem open_ops (hv:Value.okWide prog w r b0 22 v) (h:DataW.Trod enc prog w 0 (fun _=>true) true 22 v d p):∃A n c xs,v=.slice A n c/\Ia w A n c xs:=Ud (by decide) underlying22 Hp YW hv h
end
end Opens
end Go.Proofs.YtgdaahffmcfhpaaGreatDoor
