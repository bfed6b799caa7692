/- Lemmas on the way: PShG PShKey. -/
import Derived.Test.YtgdaahffmcfhpaaGreatDoorT16
import Derived.Test.YtgdaahffmcfhpaaGreatDoorT00
set_option maxRecDepth 100000
set_option maxHeartbeats 8000000
namespace Go.Proofs.YtgdaahffmcfhpaaGreatDoor
open Tryz
namespace Pt
open Go.RowKit
attribute [local go_sem] dO dL dQ dM
theorem CW:#[Value.int .u64 7640891576956012808,.int .u64 13503953896175478587,.int .u64 4354685564936845355,.int .u64 11912009170470909681,.int .u64 5840696475078001361,.int .u64 11170449401992604703,.int .u64 2270897969802886507,.int .u64 6620516959819538809]=av start:=by kernel_rfl
theorem CX {v:V8} (h:v.ok) (s:List UInt8):∀n,(iD v s n).ok
 |0=>h
 |_+1=>Pz _ _
theorem Lm (V:V8) (k:Nat) (h:k < 8) (w:World):(Instr.index 400 (.agg (av V)) (.int .i64 (k:Int))).run prog w=.ok (.int .u64 ((V.list.getD k 0:Nat):Int)) w:=by
 have h8:k=0\/k=1\/k=2\/k=3\/k=4\/k=5\/k=6\/k=7:=by omega
 rcases h8 with rfl|rfl|rfl|rfl|rfl|rfl|rfl|rfl <;> rfl
theorem Et (V:V8) (k:Nat) (h:k < 8):(V.list.take (k+1)).flatMap vH=(V.list.take k).flatMap vH++vH (V.list.getD k 0):=by
 have hl:k < V.list.length:=h;rw [bF hl,List.flatMap_append];simp [List.getD_eq_getElem?_getD,bf hl]
def tu:Value->Nat
 | .slice _ n _=>n
 |_=>0
theorem Ln (n k:Nat) (h:k < gu n):(n+1+k) % 128≠112:=by unfold gu at h;omega
theorem Lo (n:Nat):(n+1+gu n) % 128=112:=by unfold gu;omega
theorem Lp (n:Nat):gu n < 128:=by unfold gu;omega
theorem QE {P:Program} {ops:Array Oper} {rest:List Oper} {o:Oper} {a:Act} {w:World} {Q:Exit->Act->World->Prop} (hgd:o.guard=none) (ty:TypeId) (x y:Operand) (ho:o.op=.store ty x y)
  (g:Nat) (v:V8) (x0 x1 x2 x3 x4 x5 x6 x7:Int) (hx:a.eval x=.pointer (some ⟨g,0,none⟩)) (hy:a.eval y=.agg #[.int .u64 x0,.int .u64 x1,.int .u64 x2,.int .u64 x3,.int .u64 x4,.int .u64 x5,.int .u64 x6,.int .u64 x7])
  (he:#[Value.int .u64 x0,.int .u64 x1,.int .u64 x2,.int .u64 x3,.int .u64 x4,.int .u64 x5,.int .u64 x6,.int .u64 x7]=av v)
  (t:TypeId) (old:Array Value) (hg:w.heap[g]? =some (.cells old t (0,0))) (hi:(P.info? ty).map (·.size)=some 8) (hold:old.size=8)
  (h:∀w',Blk w' g t (av v)->w.grownBy w' (some g)->w'.heap.size=w.heap.size->wpList P ops Q rest (a.put o.dst undef) w'):wpList P ops Q (o :: rest) a w:=
 Ll hgd ty x y ho g x0 x1 x2 x3 x4 x5 x6 x7 hx hy t old hg hi hold (h _ (by rw [he];exact Blk.setRow hg _) (ru (dx _ _) (.inl rfl) _) (by simp))
theorem QF (l:List UInt8) (hl:l.length<=100000) (S:List UInt8) (TB:dG (sumL l=S)) (w:World):
  Calls prog 253 #[.string (bs l)] w (dJ w (.string (bs S))):=by
 obtain ⟨i0,hi,hz0,hz1,hz2⟩:=info_parts Br;have HI:=dH hi;have j9:=dH hz0;have gH:=dH hz1;have iH:=dH hz2;have Yw:(prog.info? 400).map (·.size)=some 8:=by kernel_rfl
 have hN:Blk (w.alloc (.cells #[.int .u64 0,.int .u64 0,.int .u64 0,.int .u64 0,.int .u64 0,.int .u64 0,.int .u64 0,.int .u64 0] 400)) w.heap.size 400 #[.int .u64 0,.int .u64 0,.int .u64 0,.int .u64 0,.int .u64 0,.int .u64 0,.int .u64 0,.int .u64 0]:=Blk.new _ _ _;have HL:=dH hl;clear hi hz0 hz1 hz2 hl;go_enter func253,ntmps253;go_wp2_with (refine QE rfl 400 _ _ rfl w.heap.size start _ _ _ _ _ _ _ _ rfl rfl CW 400 _ hN Yw rfl ?_)
 intro W1 hH hg1 hs1;have dR:Below w.heap.size w W1:=ef ((aC _ w).alloc (aB _) _) hg1 (aB _) (by simp);clear hN hg1;go_wp2_with (refine vF _ rfl 9 259 5 _ rfl underlying9 underlying259 underlying5 l rfl (by have:=HL.o;unfold maxLen;omega) ?_)
 intro g cap W2 Fy hO dS hs2;have hH2:Blk W2 w.heap.size 400 (av start):=hH.below dS (by omega);have di:Below w.heap.size w W2:=dR.trans (dS.mono (by omega));have HO:=dH hO;have HH:=dH hH2;have HB:=dH di;have HG:=dH Fy;clear hO hH hH2 dR dS di hs1 Fy;go_wp2_with (at_builtin;refine dZ _ rfl (.tmp 12) (.tmp 13) 259 259 rfl 5 i0 (.int .u8 0) 1 underlying259 HI.o j9.o gH.o rfl (by decide) (w.heap.size+1) _ l.length (bv l) rfl (HO.o.alloc _) (.slice (some ⟨_,0,none⟩) 1 1) rfl 1 (bv [128]) ?c1 ?c3 ?c4 ?c5 ?_)
 case c1=>exact Src.one underlying259 (by rw [<-hs2];simp) rfl
 case c3=>have:=HL.o;unfold maxLen;omega
 case c4=>have:=HL.o;rw [iH.o];omega
 case c5=>simp;omega
 intro v1 W3 hO hg gE;have oy:jH W2 (.slice (some ⟨g,0,none⟩) l.length cap) W3 v1:=(jH.alloc _ _ _).trans (jH.step hg gE (by simp [hs2]));have hH3:=oy.blk HH.o (by simp [Value.ownBlock,HG.o]);have hb4:=oy.toBelow HB.o (by omega) (by simp [Value.ownBlock,HG.o]);have hs3:=oy.1.size;clear hg gE oy HO HH HB;rw [<-oP] at hO;have HO:=dH hO;have HH:=dH hH3;have HB:=dH hb4;clear hO hH3 hb4;go_wp2_with fail;go_loopw [4] (fun v wr=>∃k:Nat,k<=gu l.length/\dN wr (w.heap.size+1) 1 v (l.length+1+k) (bv (l++128 :: List.replicate k 0))/\Blk wr w.heap.size 400 (av start)/\Below w.heap.size w wr/\w.heap.size+2<=wr.heap.size) (fun v _=>l.length+1+gu l.length - tu v)
 case atStart=>exact ⟨0,aT _,HO.o,HH.o,HB.o,by omega⟩
 case round=>
  obtain ⟨k,hk,hO,hH,hb,hs⟩:=hrel;have hBw:w.heap.size+1<=wr.heap.size:=by omega
  obtain ⟨N,hN⟩:=dB (l.length+1+k);have HN:=dH hN;have hNl:N<=100200:=by have:=Lp l.length;have:=HL.o;omega
  rw [<-hN] at hO;obtain ⟨g4,c4,rfl,hg4,aaC,aaD,aaE,hx4,YZ⟩:=hO.form (by omega);rcases aG k (gu l.length) with hlt|hge
  ·have hne:=Ln l.length k hlt
   rw [<-hN] at hne;have hd:((N:Int) % 128 != 112)=true:=by rw [bne_iff_ne];omega
   clear hne hx4 YZ aaC aaD aaE hN;have HO:=dH hO;have HH:=dH hH;have HB:=dH hb;clear hO hH hb;go_wp2_with (at_builtin;refine dZ _ rfl (.tmp 19) (.tmp 20) 259 259 rfl 5 i0 (.int .u8 0) 1 underlying259 HI.o j9.o gH.o rfl (by decide) (w.heap.size+1) _ N _ rfl (HO.o.alloc _) (.slice (some ⟨wr.heap.size,0,none⟩) 1 1) rfl 1 (bv [0]) ?c1 ?c3 ?c4 ?c5 ?_)
   case c1=>exact Src.one underlying259 (by simp) rfl
   case c3=>unfold maxLen;omega
   case c4=>rw [iH.o];omega
   case c5=>simp;omega
   intro v' w1 RY hg gE;have oy:jH wr (.slice (some ⟨g4,0,none⟩) N c4) w1 v':=(jH.alloc _ _ _).trans (jH.step hg gE (by simp));have hH':=oy.blk HH.o (by simp [Value.ownBlock];omega);have hb':=oy.toBelow HB.o (by omega) (by simp [Value.ownBlock];omega);have hs':=oy.1.size;rw [<-oP,show (l++128 :: List.replicate k 0)++[0]=l++128 :: List.replicate (k+1) 0 from by rw [List.replicate_succ'];simp,HN.o] at RY;have HO:=dH RY;have HH:=dH hH';have HB:=dH hb';clear RY hH' hb' hg gE oy;go_wp2_with fail;refine ⟨⟨k+1,by omega,HO.o,HH.o,HB.o,by omega⟩,?_⟩;obtain ⟨g6,c6,e6,_⟩:=HO.o.form (by omega);have uG:tu v'=l.length+1+k+1:=by rw [e6];rfl
   have Ht:tu (Value.slice (some { block:=g4,off:=0 }) N c4)=N:=rfl;have:=HN.o;rw [uG,Ht];omega
  ·obtain rfl:k=gu l.length:=by omega
   have he:=Lo l.length;rw [<-hN] at he;have hd:((N:Int) % 128 != 112)=false:=by rw [bne_eq_false_iff_eq];omega
   have hm:IntKind.u64.wrap (8*IntKind.u64.wrap (l.length:Int))=((8*l.length:Nat):Int):=by
    have:=HL.o;rw [IntKind.wrap_u64,IntKind.wrap_u64];omega
   have HM:=dH hm;clear he hx4 YZ aaC aaD aaE hN hm;have HO:=dH hO;have HH:=dH hH;have HB:=dH hb;clear hO hH hb;go_wp2_with fail;refine (zv _ _ _ _ 0 _ HO.o hBw (by omega)).mono ?_;rintro e w4 ⟨v4,rfl,ue,WN⟩;have hs4:=WN.1.size;have sU:=dH ue;have Hu:=dH WN;clear ue WN;go_wp2_with fail;rw [HM.o];refine (zv _ _ _ _ (8*l.length) _ sU.o (by omega) (by omega)).mono ?_;rintro e w5 ⟨v5,rfl,ux,WO⟩;have Uu:=Hu.o.trans WO;have hH5:=Uu.blk HH.o (by simp [Value.ownBlock];omega);have eu:=Uu.toBelow HB.o (by omega) (by simp [Value.ownBlock];omega);have hs5:=WO.1.size;rw [show l++128 :: List.replicate (gu l.length) 0++vH 0++vH (8*l.length)=ji l from rfl] at ux;have hP:(ji l).length=N+8+8:=by have:=ux.len;simpa [bv] using this
   obtain ⟨P,hPe⟩:=dB (N+8+8);have hPd:P % 128=0:=by have:=(Lc l).1;omega
   rw [<-hPe] at ux hP;obtain ⟨g5,c5,rfl,GP,adv,adw,Yx,_⟩:=ux.form (by omega);have Yx:c5<=9223372036854775807:=by unfold maxLen at Yx;omega
   have HO:=dH ux;have HH:=dH hH5;have HB:=dH eu;have HPe:=dH hPe;have Be:=dH hP;clear ux WO Uu hH5 eu Hu sU hPe hP;go_wp2_with fail;go_loopw [5] (fun i wr=>∃k:Nat,128*k<=P/\i=.int .i64 (128*k:Nat)/\Blk wr w.heap.size 400 (av (iD start (ji l) k))/\dN wr (w.heap.size+1) 1 (.slice (some ⟨g5,0,none⟩) P c5) P (bv (ji l))/\Below w.heap.size w wr/\w.heap.size+2<=wr.heap.size) (fun i _=>P - (intOf i).toNat)
   case atStart=>exact ⟨0,by omega,rfl,HH.o,HO.o,HB.o,by omega⟩
   case round=>
    obtain ⟨k,hk,rfl,hH,hO,hb,hsz⟩:=hrel;obtain ⟨I,hI⟩:=dB (128*k);have rV:=dH hI;rw [<-hI] at hk ⊢;rcases aG I P with hlt|hge
    ·have abc:I+128<=P:=by omega
     obtain ⟨g7,c7,e7,_,_,_,_,hx7,_⟩:=hO.form (by omega);cases e7;have HI:=dH hI;clear hI;have hVo:=CX Lb (ji l) k;generalize hV:iD start (ji l) k=V at*;have HVo:=dH hVo;clear hVo;have c0:wr.cell? ⟨w.heap.size,0,none⟩=some (.int .u64 (V.a:Int)):=hH.at_ 0 rfl;have c1:wr.cell? ⟨w.heap.size,1,none⟩=some (.int .u64 (V.b:Int)):=hH.at_ 1 rfl;have c2:wr.cell? ⟨w.heap.size,2,none⟩=some (.int .u64 (V.c:Int)):=hH.at_ 2 rfl;have c3:wr.cell? ⟨w.heap.size,3,none⟩=some (.int .u64 (V.d:Int)):=hH.at_ 3 rfl;have c4':wr.cell? ⟨w.heap.size,4,none⟩=some (.int .u64 (V.e:Int)):=hH.at_ 4 rfl;have c5':wr.cell? ⟨w.heap.size,5,none⟩=some (.int .u64 (V.f:Int)):=hH.at_ 5 rfl;have c6:wr.cell? ⟨w.heap.size,6,none⟩=some (.int .u64 (V.g:Int)):=hH.at_ 6 rfl;have c7:wr.cell? ⟨w.heap.size,7,none⟩=some (.int .u64 (V.h:Int)):=hH.at_ 7 rfl;have hw1:IntKind.i64.wrap ((I:Int)+128)=((I+128:Nat):Int):=by rw [IntKind.wrap_i64];omega
     have hne:¬ c5=I:=by omega
     have hT:((I:Int)+128).toNat=I+128:=by omega
     have hblk:((ji l).drop I).length=P - I:=by rw [ax,Be.o]
     have Se:=run_convert_bytes_back (P:=prog) wr.drew 259 9 5 ⟨g5,I,none⟩ (c5 - I) (((ji l).drop I).take 128) underlying259 underlying5 underlying9 (fun j hj=>by
      have hj':j < 128/\I+j < (ji l).length:=by rw [aX,hblk] at hj;rw [Be.o];omega
      have lF:(Addr.mk g5 I none).add j= ⟨g5,I+j,none⟩:=by unfold Addr.add;split <;> simp_all
      rw [lF];refine hx7 (I+j) _ ?_;simp [bv,hj'.2])
     have hlen:(((ji l).drop I).take 128).length=128:=by rw [aX,hblk];omega
     rw [hlen] at Se;rw [show (ByteArray.mk (((ji l).drop I).take 128).toArray)=bs (((ji l).drop I).take 128) from rfl] at Se;generalize hS:((ji l).drop I).take 128=S at*;have HS:=dH hS;have HSl:=dH hlen;clear hlen hblk hS hx7;have eV:(I:Int)<=(I:Int)+128:=by omega
     have iI:(I:Int)+128<=(c5:Int):=by omega
     have HV:=dH hV;have HO:=dH hO;have HH:=dH hH;have HB:=dH hb;clear hO hH hb hV;go_wp2_with fail;refine oB 7 (by kernel_rfl) (by kernel_rfl) ?_;simp only [cU,List.take_zero,List.drop_succ_cons,bk];repeat still_step
     refine wpStill_nil ?_;have hp:=QD V HVo.o S HSl.o wr.drew;obtain ⟨V2,E7⟩:=dB (Ei V S);rw [<-E7] at hp;have HV2:=dH E7;clear E7 Se;go_wp2_with fail;refine hp.mono ?_;rintro e w8 ⟨rfl,qV⟩;have X1:Blk w8 w.heap.size 400 (av V):=HH.o.drew.below qV HH.o.drew.lt;have hO8:dN w8 (w.heap.size+1) 1 (.slice (some ⟨g5,0,none⟩) P c5) P (bv (ji l)):=HO.o.drew.below qV;have Fz:Below w.heap.size w w8:=HB.o.drew.trans (qV.mono (show w.heap.size<=wr.heap.size by omega));have hs8:wr.heap.size<=w8.heap.size:=qV.size;have Uv:∀v,(prog.info? 400).map (·.size)=some (av v).size:=fun v=>by rw [qm];exact Yw
     have Hs:∀v,(av v).all (·.oneCell')=true:=fun v=>by simp [av,Value.oneCell']
     have HO:=dH hO8;have HB:=dH Fz;clear hO8 Fz qV hp;go_wp2_with (refine wpList_store_row rfl 400 _ _ rfl w.heap.size (av V2) rfl rfl 400 (av V) X1 (Uv _) ((qm _).trans (qm _).symm) (Hs _) ?_)
     have hrow:w8.grownBy (w8.setRow w.heap.size (av V2)) (some w.heap.size):=ru (dx _ _) (.inl rfl) _;refine ⟨⟨k+1,?_,congrArg (Value.int .i64) ?_,?_,HO.o.kept hrow (.inr (by simp [Value.ownBlock];omega)),ir HB.o (aB _) _,by simp;omega⟩,by simp [intOf];omega⟩
     ·have:=HI.o;omega
     ·have:=HI.o;omega
     ·have h9:iD start (ji l) (k+1)=V2:=by
       rw [HV2.o,<-HS.o,<-HV.o,HI.o];rfl
      rw [h9];exact X1.setRow _
    ·have hk2:k=P / 128:=by omega
     have eC:iD start (ji l) k=iD start (ji l) ((ji l).length / 128):=by rw [Be.o,hk2]
     have K9:AD (iD start (ji l) k)=S:=by rw [<-TB.o];unfold sumL;rw [eC]
     clear eC;generalize iD start (ji l) k=V at*;have abd:=dH K9;have HB:=dH hb;have Uv:∀v,(prog.info? 400).map (·.size)=some (av v).size:=fun v=>by rw [qm];exact Yw
     clear K9 hb hI hO hk2;go_wp2_with (refine wpList_load_row rfl 400 _ rfl w.heap.size rfl 400 (av V) (0,0) _ hH underlying400 rfl (Uv _) ?_)
     clear hH;go_loopw [6,44] (fun o i ws=>∃k:Nat,k<=8/\i=.int .i64 k/\dN ws w.heap.size 1 o (8*k) (bv ((V.list.take k).flatMap vH))/\Below w.heap.size w ws/\w.heap.size<=ws.heap.size) (fun _ i _=>8 - (intOf i).toNat)
     case atStart=>exact ⟨0,by omega,rfl,dN.nil_ _ _ _,HB.o,by omega⟩
     case round=>
      obtain ⟨k,hk,rfl,hO,hb,hs⟩:=hrel;rcases aG k 8 with hlt|hge
      ·have hix:=Lm V k hlt
       have hbs:=Et V k hlt;generalize V.list.getD k 0=X at*;have HO:=dH hO;have HB:=dH hb;have Kh:=dH hbs;clear hO hb hbs;go_wp2_with fail;refine (zv _ _ _ _ X _ HO.o hs (by omega)).mono ?_;rintro e w9 ⟨o9,rfl,hO9,hg9⟩;have Fz:=hg9.toBelow HB.o hs (fun q hq=>(HO.o.ge q hq).1);have hs9:=hg9.1.size;rw [<-Kh.o] at hO9;have HO:=dH hO9;have HB:=dH Fz;clear hO9 hg9 Fz;go_wp2_with fail;exact ⟨⟨k+1,by omega,by go_num,HO.o,HB.o,by omega⟩,by simp [intOf];omega⟩
      ·obtain rfl:k=8:=by omega
       rw [show V.list.take 8=V.list from rfl,show V.list.flatMap vH=AD V from rfl,abd.o] at hO;obtain ⟨g9,c9,rfl,_,_,_,_,hx9,_⟩:=hO.form (by omega);have hlen:=vS l;rw [TB.o] at hlen;have Se:=run_convert_bytes_back (P:=prog) wr 259 9 5 ⟨g9,0,none⟩ c9 S underlying259 underlying5 underlying9 (fun j hj=>by
        have lF:(Addr.mk g9 0 none).add j= ⟨g9,j,none⟩:=by unfold Addr.add;split <;> simp_all
        rw [lF];refine hx9 j _ ?_;simp [bv,hj])
       rw [hlen,show ByteArray.mk S.toArray=bs S from rfl] at Se;clear hlen hx9 hO;go_wp2_with fail;go_ret;exact ⟨rfl,hb⟩
theorem sum_c (l:List UInt8) (hl:l.length<=100000) (w:World):
  Calls prog 253 #[.string (bs l)] w (dJ w (.string (bs (sumL l)))):=QF l hl _ (dH rfl) w
end Pt
namespace Pt
open Go.RowKit
attribute [local go_sem] dO dL dQ dM
theorem CY (l:List UInt8):(bs (sumL l)).extract 0 32=bs ((sumL l).take 32):=by rw [fV];rfl
theorem key_c (l:List UInt8) (hl:l.length<=100000) (w:World):
  Calls prog 179 #[.string (bs l)] w (dJ w (.string (bs ((sumL l).take 32)))):=by
 have hlen:=vS l;have hk:=CY l;have h:=sum_c l hl;generalize sumL l=S at*;have hS:((32:Nat))<=(bs S).size:=by rw [dO];omega
 go_enter func179,ntmps179;go_wp2_with fail;refine (h _).mono ?_;rintro e w1 ⟨rfl,hb⟩;go_wp2_with fail;go_ret;exact ⟨rfl,hb⟩
end Pt
end Go.Proofs.YtgdaahffmcfhpaaGreatDoor
