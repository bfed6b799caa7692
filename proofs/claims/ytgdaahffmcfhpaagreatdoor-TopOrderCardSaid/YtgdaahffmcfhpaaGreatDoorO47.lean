/- Lemmas on the way: OpensG Op. -/
import Derived.ProofKit
import Derived.OpenShut
import Derived.Deep.Strs
import Derived.Test.YtgdaahffmcfhpaaGreatDoorO46
set_option maxRecDepth 100000
set_option maxHeartbeats 8000000
namespace Go.Proofs.YtgdaahffmcfhpaaGreatDoor
open aA
open Tryz
namespace Opens
open Go.ChangeShapes Go.WideShapes Go.ChangeAt Go.RowKit
section
variable {H:Type} {enc:TypeId×Value->H} {P:Program} {w:World}
theorem aaZ {α:Type} [Inhabited α] {size:Nat} (hs:0 < size) {R:List Value->α->Prop} {t e:TypeId} {fuel:Nat} {cs:List Value} {x:DataW H×List MemPlace} (ht:P.underlying t=some (.slice e)) (hc:P.cellsOf e=size)
  (R5:∀n cs x,DataW.trod enc P w 0 (λ_=>true) true n e cs=some x->∃y,R cs y) (h:DataW.trod enc P w 0 (λ_=>true) true fuel t cs=some x):
  ∃A n c xs,cs=[.slice A n c]/\Sl w size R A n c xs:=by
 rcases Go.Deep.open_slice ht h with ⟨rfl,_⟩| ⟨a,len,cap,m,n,D,Pl,rfl,_,hl,hm,hmm,_,hx⟩
 ·exact ⟨none,0,0,[],rfl,Sl.nil_⟩
 simp only [if_true] at hmm;obtain ⟨f,hf⟩:=Go.Deep.choose_lt (n:=len) (p:=λi y=>∃cs',w.cells? 0 (a.add (i*P.cellsOf e)) (P.cellsOf e)=some cs'/\R cs' y) (λi hi=>by
  obtain ⟨cs',h1,h2⟩:=hx i (by omega);obtain ⟨y,hy⟩:=R5 _ _ _ h2;exact ⟨y,cs',h1,hy⟩)
 refine ⟨some a,len,cap,(List.range len).map f,rfl,by simp,hl,by unfold maxLen at hm;omega,λi hi=>?_⟩;have hi':i < len:=by simpa using hi
 obtain ⟨cs',h1,hy⟩:=hf i hi';obtain ⟨_,hlen,hcell⟩:=World.cells?_some h1;rw [hc] at hlen hcell;obtain ⟨b,off,spot⟩:=a;have h0:=hcell 0 hs;rw [bh (by omega)] at h0;have hsp:spot=none:=by
  obtain ⟨cs0,h1,_⟩:=hf 0 (by omega);obtain ⟨_,hlen,hcell⟩:=World.cells?_some h1;rw [hc] at hlen hcell;have h0:=hcell 0 hs;rw [bh (by omega),qb] at h0;have:=World.cell?_spot h0;simpa [Addr.add] using this
 subst hsp;have kL:∀j,(Addr.mk b off none).add j= ⟨b,off+j,none⟩:=λj=>by unfold Addr.add;split <;> simp_all
 refine ⟨b,off,cs',rfl,?_,hlen,by simpa using hy,λj u hu=>?_⟩
 ·rcases aD b w with h|h
  ·exact h
  ·rw [qb,kL] at h0
   simp [World.cell?,ax h] at h0
 ·have hj:j < size:=by
   rcases aD j size with h|h
   ·exact h
   ·rw [bD (by omega)] at hu;cases hu
  have:=hcell j hj;rw [qb,kL,hu] at this;rw [<-this];congr 2;omega
theorem tf {e:TypeId} (he:P.underlying e=some (.int .i64)):∀n cs x,DataW.trod enc P w 0 (λ_=>true) true n e cs=some x->∃y,uv cs y:=by
 intro n cs x h;obtain ⟨y,rfl,_,hw⟩:=DataW.trod_int he h;refine ⟨y,rfl,?_⟩;have:=hw;simp [Lit.wf,IntKind.min,IntKind.max,IntKind.signed,IntKind.bits] at this;unfold oS;omega
theorem Pe {e ti:TypeId} {f0 f1:Field} (he:P.underlying e=some (.struct #[f0,f1])) (hc:P.cellsOf e=2) (h0:f0.type=ti) (h1:f1.type=ti) (o0:f0.offset=0) (o1:f1.offset=1) (sN:P.cellsOf ti=1) (hi:P.underlying ti=some (.int .i64)):
  ∀n cs x,DataW.trod enc P w 0 (λ_=>true) true n e cs=some x->∃y,Mp cs y:=by
 intro n cs x h;obtain ⟨y0,y1,m,_,hl,t0,t1⟩:=trod_struct2 he h;rw [hc] at hl;rw [h0,o0,sN] at t0;rw [h1,o1,sN] at t1
 match cs,hl with
 | [c0,c1],_=>
  obtain ⟨a,ea,ra⟩:=tf hi _ _ _ t0;obtain ⟨b,eb,rb⟩:=tf hi _ _ _ t1;simp at ea eb;exact ⟨(a,b),by simp [ea,eb],ra,rb⟩
end
section
variable {H:Type} {enc:TypeId×Value->H} {P:Program} {w:World}
def V3 (cs:List Value) (b:Bool):Prop:=cs=[.bool b]
def aee (cs:List Value) (s:List UInt8):Prop:=cs=[.string ⟨s.toArray⟩]/\s.length<=9223372036854775807
theorem TR {e:TypeId} (he:P.underlying e=some .bool):∀n cs x,DataW.trod enc P w 0 (λ_=>true) true n e cs=some x->∃y,V3 cs y:=by
 intro n cs x h;obtain ⟨y,rfl,_⟩:=DataW.trod_bool he h;exact ⟨y,rfl⟩
theorem H8 {e:TypeId} (he:P.underlying e=some .string):∀n cs x,DataW.trod enc P w 0 (λ_=>true) true n e cs=some x->∃y,aee cs y:=by
 intro n cs x h;obtain ⟨s,rfl,_,hw⟩:=DataW.trod_string he h;refine ⟨s.data.toList,by simp,?_⟩;unfold maxLen at hw;simpa using hw
theorem He {α:Type} [Inhabited α] {size:Nat} (hs:0 < size) {R:List Value->α->Prop} {t e:TypeId} (ht:P.underlying t=some (.slice e)) (hc:P.cellsOf e=size)
  (R5:∀n cs x,DataW.trod enc P w 0 (λ_=>true) true n e cs=some x->∃y,R cs y) {r:Reach} {b0:Nat} {v:Value} {d:DataW H} {p:List MemPlace} (hv:Value.okWide P w r b0 t v) (h:DataW.Trod enc P w 0 (λ_=>true) true t v d p):
  ∃A n c xs,v=.slice A n c/\Sl w size R A n c xs:=by
 obtain ⟨a,l,c,rfl⟩:=okWide_slice ht hv;obtain ⟨n,hn⟩:=h;obtain ⟨A,m,c,xs,e,hs⟩:=aaZ hs ht hc R5 hn;exact ⟨A,m,c,xs,by simpa [Value.cells] using e,hs⟩
end
end Opens
namespace Opens
open Go.ChangeShapes Go.WideShapes Go.ChangeAt Go.RowKit
section
variable {H:Type} {enc:TypeId×Value->H} {w:World} {r:Reach} {b0:Nat} {v:Value} {d:DataW H} {p:List MemPlace}
theorem JM:prog.cellsOf 32=11:=by kernel_rfl
theorem vu:prog.cellsOf 30=2:=by kernel_rfl
theorem CH:prog.cellsOf 3=1:=by kernel_rfl
theorem X4:prog.cellsOf 4=1:=by kernel_rfl
theorem Hf:prog.cellsOf 9=1:=by kernel_rfl
theorem Eh:prog.cellsOf 113=2:=by kernel_rfl
theorem Pf:∃f0 f1:Field,prog.underlying 30=some (.struct #[f0,f1])/\f0.type=3/\f1.type=3/\f0.offset=0/\f1.offset=1:=⟨_,_,underlying30,rfl,rfl,rfl,rfl⟩
theorem Ll:∃f0 f1:Field,prog.underlying 113=some (.struct #[f0,f1])/\f0.type=3/\f1.type=9/\f0.offset=0/\f1.offset=1:=⟨_,_,underlying113,rfl,rfl,rfl,rfl⟩
theorem Pg:∃f0 f1 f2 f3 f4 f5 f6 f7:Field,prog.underlying 32=some (.struct #[f0,f1,f2,f3,f4,f5,f6,f7])/\(f0.type=30/\f1.type=3/\f2.type=3/\f3.type=30/\f4.type=4/\f5.type=30/\f6.type=9/\f7.type=9)/\(f0.offset=0/\f1.offset=2/\f2.offset=3/\f3.offset=4/\f4.offset=6/\f5.offset=7/\f6.offset=9/\f7.offset=10):=⟨_,_,_,_,_,_,_,_,underlying32,⟨rfl,rfl,rfl,rfl,rfl,rfl,rfl,rfl⟩,rfl,rfl,rfl,rfl,rfl,rfl,rfl,rfl⟩
theorem Ph:∀n cs x,DataW.trod enc prog w 0 (λ_=>true) true n 30 cs=some x->∃y,Mp cs y:=by
 obtain ⟨f0,f1,he,t0,t1,o0,o1⟩:=Pf;exact Pe he vu t0 t1 o0 o1 CH underlying3
theorem aba:∀n cs x,DataW.trod enc prog w 0 (λ_=>true) true n 32 cs=some x->∃y,OpC cs y:=by
 intro n cs x h;obtain ⟨f0,f1,f2,f3,f4,f5,f6,f7,he,⟨t0,t1,t2,t3,t4,t5,t6,t7⟩,o0,o1,o2,o3,o4,o5,o6,o7⟩:=Pg;obtain ⟨xs,m,_,_,hl,hlen,hf⟩:=DataW.trod_struct he h;rw [JM] at hl
 match xs,hlen with
 | [y0,y1,y2,y3,y4,y5,y6,y7],_=>
  have r0:=hf 0 f0 rfl;have r1:=hf 1 f1 rfl;have r2:=hf 2 f2 rfl;have r3:=hf 3 f3 rfl;have r4:=hf 4 f4 rfl;have r5:=hf 5 f5 rfl;have r6:=hf 6 f6 rfl;have r7:=hf 7 f7 rfl;rw [t0,o0,vu] at r0;rw [t1,o1,CH] at r1;rw [t2,o2,CH] at r2;rw [t3,o3,vu] at r3;rw [t4,o4,X4] at r4;rw [t5,o5,vu] at r5;rw [t6,o6,Hf] at r6;rw [t7,o7,Hf] at r7
  match cs,hl with
  | [c0,c1,c2,c3,c4,c5,c6,c7,c8,c9,jX],_=>
   obtain ⟨a0,e0,_⟩:=Ph _ _ _ r0;obtain ⟨a1,e1,_⟩:=tf underlying3 _ _ _ r1;obtain ⟨a2,e2,_⟩:=tf underlying3 _ _ _ r2;obtain ⟨a3,e3,_⟩:=Ph _ _ _ r3;obtain ⟨a4,e4⟩:=TR underlying4 _ _ _ r4;obtain ⟨a5,e5,_⟩:=Ph _ _ _ r5;obtain ⟨a6,e6,h6⟩:=H8 underlying9 _ _ _ r6;obtain ⟨a7,e7,h7⟩:=H8 underlying9 _ _ _ r7;simp [V3] at e0 e1 e2 e3 e4 e5 e6 e7;exact ⟨⟨a0,a1,a2,a3,a4,a5,a6,a7⟩,by simp [oc,bs,e0,e1,e2,e3,e4,e5,e6,e7],h6,h7⟩
theorem abb:∀n cs x,DataW.trod enc prog w 0 (λ_=>true) true n 113 cs=some x->∃y,RlC cs y:=by
 intro n cs x h;obtain ⟨f0,f1,he,t0,t1,o0,o1⟩:=Ll;obtain ⟨xs,m,_,_,hl,hlen,hf⟩:=DataW.trod_struct he h;rw [Eh] at hl
 match xs,hlen with
 | [y0,y1],_=>
  have r0:=hf 0 f0 rfl;have r1:=hf 1 f1 rfl;rw [t0,o0,CH] at r0;rw [t1,o1,Hf] at r1
  match cs,hl with
  | [c0,c1],_=>
   obtain ⟨a0,e0,_⟩:=tf underlying3 _ _ _ r0;obtain ⟨a1,e1,h1⟩:=H8 underlying9 _ _ _ r1;simp at e0 e1;exact ⟨⟨a0,a1⟩,by simp [rlc,bs,e0,e1],h1⟩
theorem open_ops (hv:Value.okWide prog w r b0 22 v) (h:DataW.Trod enc prog w 0 (λ_=>true) true 22 v d p):∃A n c xs,v=.slice A n c/\mR w A n c xs:=He (by decide) underlying22 JM aba hv h
theorem open_ints (hv:Value.okWide prog w r b0 51 v) (h:DataW.Trod enc prog w 0 (λ_=>true) true 51 v d p):∃A n c xs,v=.slice A n c/\Sl w 1 uv A n c xs:=He (by decide) underlying51 (by kernel_rfl) (tf underlying3) hv h
instance:Inhabited Rl:=⟨⟨0,[]⟩⟩
theorem open_rules (hv:Value.okWide prog w r b0 52 v) (h:DataW.Trod enc prog w 0 (λ_=>true) true 52 v d p):∃A n c xs,v=.slice A n c/\Ee w A n c xs:=He (by decide) underlying52 Eh abb hv h
end
end Opens
end Go.Proofs.YtgdaahffmcfhpaaGreatDoor
