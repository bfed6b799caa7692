/- Lemmas on the way: PShG PShKey. -/
import Derived.Test.YtgdaahffmcfhpaaGreatDoorO19
set_option maxRecDepth 100000
set_option maxHeartbeats 8000000
namespace Go.Proofs.YtgdaahffmcfhpaaGreatDoor
open aA
open Tryz
namespace Pt
open Go.RowKit
attribute [local go_sem] dR dO dS dP
theorem De:#[Value.int .u64 7640891576956012808,.int .u64 13503953896175478587,.int .u64 4354685564936845355,.int .u64 11912009170470909681,.int .u64 5840696475078001361,.int .u64 11170449401992604703,.int .u64 2270897969802886507,.int .u64 6620516959819538809]=av start:=by kernel_rfl
theorem Df {v:V8} (h:v.ok) (s:List UInt8):∀n,(iX v s n).ok
 |0=>h
 |_+1=>S7 _ _
theorem Ni (V:V8) (k:Nat) (h:k < 8) (w:World):(Instr.index 400 (.agg (av V)) (.int .i64 (k:Int))).run prog w=.ok (.int .u64 ((V.list.getD k 0:Nat):Int)) w:=by
 have h8:k=0\/k=1\/k=2\/k=3\/k=4\/k=5\/k=6\/k=7:=by omega
 rcases h8 with rfl|rfl|rfl|rfl|rfl|rfl|rfl|rfl <;> rfl
theorem GB (V:V8) (k:Nat) (h:k < 8):(V.list.take (k+1)).flatMap wQ=(V.list.take k).flatMap wQ++wQ (V.list.getD k 0):=by
 have hl:k < V.list.length:=h;rw [ay hl,List.flatMap_append];simp [List.getD_eq_getElem?_getD,bh hl]
def uz:Value->Nat
 | .slice _ n _=>n
 |_=>0
theorem Nj (n k:Nat) (h:k < iO n):(n+1+k) % 128≠112:=by unfold iO at h;omega
theorem Nk (n:Nat):(n+1+iO n) % 128=112:=by unfold iO;omega
theorem Nl (n:Nat):iO n < 128:=by unfold iO;omega
theorem SH {P:Program} {ops:Array Oper} {rest:List Oper} {o:Oper} {a:Act} {w:World} {Q:Exit->Act->World->Prop} (hgd:o.guard=none) (ty:TypeId) (x y:Operand) (ho:o.op=.store ty x y)
  (g:Nat) (v:V8) (x0 x1 x2 x3 x4 x5 x6 x7:Int) (hx:a.eval x=.pointer (some g)) (hy:a.eval y=.agg #[.int .u64 x0,.int .u64 x1,.int .u64 x2,.int .u64 x3,.int .u64 x4,.int .u64 x5,.int .u64 x6,.int .u64 x7])
  (he:#[Value.int .u64 x0,.int .u64 x1,.int .u64 x2,.int .u64 x3,.int .u64 x4,.int .u64 x5,.int .u64 x6,.int .u64 x7]=av v)
  (t:TypeId) (old:Array Value) (hg:w.heap[g]? =some (.cells old t (0,0))) (hi:(P.info? ty).map (·.size)=some 8) (hold:old.size=8)
  (h:∀w',Blk w' g t (av v)->w.grownBy w' (some g)->w'.heap.size=w.heap.size->wpList P ops Q rest (a.put o.dst undef) w'):wpList P ops Q (o :: rest) a w:=
 Nh hgd ty x y ho g x0 x1 x2 x3 x4 x5 x6 x7 hx hy t old hg hi hold (h _ (by rw [he];exact Blk.setRow hg _) (tH (dz _ _) (.inl rfl) _) (by simp))
theorem SI (l:List UInt8) (hl:l.length<=100000) (S:List UInt8) (VZ:dK (sumL l=S)) (w:World):
  Calls prog 253 #[l] w (dM w (.string (bs S))):=by
 obtain ⟨i0,hi,hz0,hz1,hz2⟩:=info_parts D5;have HI:=dL hi;have gx:=dL hz0;have gJ:=dL hz1;have gT:=dL hz2;have h26:(prog.info? 400).map (·.size)=some 8:=by kernel_rfl
 have hN:Blk (w.alloc (.cells #[.int .u64 0,.int .u64 0,.int .u64 0,.int .u64 0,.int .u64 0,.int .u64 0,.int .u64 0,.int .u64 0] 400)) w 400 #[.int .u64 0,.int .u64 0,.int .u64 0,.int .u64 0,.int .u64 0,.int .u64 0,.int .u64 0,.int .u64 0]:=Blk.new _ _ _;have HL:=dL hl;clear hi hz0 hz1 hz2 hl;go_enter func253,ntmps253;go_wp2_with (refine SH rfl 400 _ _ rfl w.heap.size start _ _ _ _ _ _ _ _ rfl rfl De 400 _ hN h26 rfl ?_)
 intro W1 hH hg1 hs1;have dV:Below w w W1:=eY ((aC _ w).alloc (aB _) _) hg1 (aB _) (by simp);clear hN hg1;go_wp2_with (refine wN _ rfl 9 259 5 _ rfl underlying9 underlying259 underlying5 l rfl (by have:=HL.o;unfold maxLen;omega) ?_)
 intro g cap W2 Tg hO dY hs2;have hH2:Blk W2 w 400 (av start):=hH.below dY (by omega);have dn:Below w w W2:=dV.trans (dY.mono (by omega));have HO:=dL hO;have HH:=dL hH2;have HB:=dL dn;have HG:=dL Tg;clear hO hH hH2 dV dY dn hs1 Tg;go_wp2_with (at_builtin;refine dW _ rfl (.tmp 12) (.tmp 13) 259 259 rfl 5 i0 (.int .u8 0) 1 underlying259 HI.o gx.o gJ.o rfl (by decide) (w.heap.size+1) _ l.length (bv l) rfl (HO.o.alloc _) (.slice (some _) 1 1) rfl 1 (bv [128]) ?c1 ?c3 ?c4 ?c5 ?_)
 case c1=>exact Src.one underlying259 (by rw [<-hs2];simp) rfl
 case c3=>have:=HL.o;unfold maxLen;omega
 case c4=>have:=HL.o;rw [gT.o];omega
 case c5=>simp;omega
 intro v1 W3 hO hg fR;have qK:jH W2 (.slice (some g) l.length cap) W3 v1:=(jH.alloc _ _ _).trans (jH.step hg fR (by simp [hs2]));have hH3:=qK.blk HH.o (by simp [Value.ownBlock,HG.o]);have hb4:=qK.toBelow HB.o (by omega) (by simp [Value.ownBlock,HG.o]);have hs3:=qK.1.size;clear hg fR qK HO HH HB;rw [<-pN] at hO;have HO:=dL hO;have HH:=dL hH3;have HB:=dL hb4;clear hO hH3 hb4;go_wp2_with fail;go_loopw [4] (λv wr=>∃k:Nat,k<=iO l.length/\dQ wr (w.heap.size+1) 1 v (l.length+1+k) (bv (l++128 :: List.replicate k 0))/\Blk wr w 400 (av start)/\Below w w wr/\w.heap.size+2<=wr.heap.size) (λv _=>l.length+1+iO l.length - uz v)
 case atStart=>exact ⟨0,aS _,HO.o,HH.o,HB.o,by omega⟩
 case round=>
  obtain ⟨k,hk,hO,hH,hb,hs⟩:=hrel;have hBw:w.heap.size+1<=wr.heap.size:=by omega
  obtain ⟨N,hN⟩:=dG (l.length+1+k);have HN:=dL hN;have hNl:N<=100200:=by have:=Nl l.length;have:=HL.o;omega
  rw [<-hN] at hO;obtain ⟨g4,c4,rfl,hg4,adB,adC,adD,hx4,hf4⟩:=hO.form (by omega);rcases aD k (iO l.length) with hlt|hge
  ·have hne:=Nj l.length k hlt
   rw [<-hN] at hne;have hd:((N:Int) % 128 != 112)=true:=by rw [bne_iff_ne];omega
   clear hne hx4 hf4 adB adC adD hN;have HO:=dL hO;have HH:=dL hH;have HB:=dL hb;clear hO hH hb;go_wp2_with (at_builtin;refine dW _ rfl (.tmp 19) (.tmp 20) 259 259 rfl 5 i0 (.int .u8 0) 1 underlying259 HI.o gx.o gJ.o rfl (by decide) (w.heap.size+1) _ N _ rfl (HO.o.alloc _) (.slice (some wr) 1 1) rfl 1 (bv [0]) ?c1 ?c3 ?c4 ?c5 ?_)
   case c1=>exact Src.one underlying259 (by simp) rfl
   case c3=>unfold maxLen;omega
   case c4=>rw [gT.o];omega
   case c5=>simp;omega
   intro v' w1 MV hg fR;have qK:jH wr (.slice (some g4) N c4) w1 v':=(jH.alloc _ _ _).trans (jH.step hg fR (by simp));have hH':=qK.blk HH.o (by simp [Value.ownBlock];omega);have hb':=qK.toBelow HB.o (by omega) (by simp [Value.ownBlock];omega);have hs':=qK.1.size;rw [<-pN,show (l++128 :: List.replicate k 0)++[0]=l++128 :: List.replicate (k+1) 0 from by rw [List.replicate_succ'];simp,HN.o] at MV;have HO:=dL MV;have HH:=dL hH';have HB:=dL hb';clear MV hH' hb' hg fR qK;go_wp2_with fail;refine ⟨⟨k+1,by omega,HO.o,HH.o,HB.o,by omega⟩,?_⟩;obtain ⟨g6,c6,e6,_⟩:=HO.o.form (by omega);have CR:uz v'=l.length+1+k+1:=by rw [e6];rfl
   have RI:uz (Value.slice (some { block:=g4,off:=0 }) N c4)=N:=rfl;have:=HN.o;rw [CR,RI];omega
  ·obtain rfl:k=iO l.length:=by omega
   have he:=Nk l.length;rw [<-hN] at he;have hd:((N:Int) % 128 != 112)=false:=by rw [bne_eq_false_iff_eq];omega
   have hm:IntKind.u64.wrap (8*IntKind.u64.wrap (l.length:Int))=((8*l.length:Nat):Int):=by
    have:=HL.o;rw [IntKind.wrap_u64,IntKind.wrap_u64];omega
   have HM:=dL hm;clear he hx4 hf4 adB adC adD hN hm;have HO:=dL hO;have HH:=dL hH;have HB:=dL hb;clear hO hH hb;go_wp2_with fail;refine (BK _ _ _ _ 0 _ HO.o hBw (by omega)).mono ?_;rintro e w4 ⟨v4,rfl,nJ,YZ⟩;have hs4:=YZ.1.size;have rI:=dL nJ;have VN:=dL YZ;clear nJ YZ;go_wp2_with fail;rw [HM.o];refine (BK _ _ _ _ (8*l.length) _ rI.o (by omega) (by omega)).mono ?_;rintro e w5 ⟨v5,rfl,wH,Ya⟩;have XS:=VN.o.trans Ya;have hH5:=XS.blk HH.o (by simp [Value.ownBlock];omega);have ef:=XS.toBelow HB.o (by omega) (by simp [Value.ownBlock];omega);have hs5:=Ya.1.size;rw [show l++128 :: List.replicate (iO l.length) 0++wQ 0++wQ (8*l.length)=kJ l from rfl] at wH;have hP:(kJ l).length=N+8+8:=by have:=wH.len;simpa [bv] using this
   obtain ⟨P,hPe⟩:=dG (N+8+8);have hPd:P % 128=0:=by have:=(NX l).1;omega
   rw [<-hPe] at wH hP;obtain ⟨g5,c5,rfl,IW,agT,agU,abC,_⟩:=wH.form (by omega);have abC:c5<=9223372036854775807:=by unfold maxLen at abC;omega
   have HO:=dL wH;have HH:=dL hH5;have HB:=dL ef;have HPe:=dL hPe;have Cs:=dL hP;clear wH Ya XS hH5 ef VN rI hPe hP;go_wp2_with fail;go_loopw [5] (λi wr=>∃k:Nat,128*k<=P/\i=.int .i64 (128*k:Nat)/\Blk wr w 400 (av (iX start (kJ l) k))/\dQ wr (w.heap.size+1) 1 (.slice (some g5) P c5) P (bv (kJ l))/\Below w w wr/\w.heap.size+2<=wr.heap.size) (λi _=>P - (intOf i).toNat)
   case atStart=>exact ⟨0,by omega,rfl,HH.o,HO.o,HB.o,by omega⟩
   case round=>
    obtain ⟨k,hk,rfl,hH,hO,hb,hsz⟩:=hrel;obtain ⟨I,hI⟩:=dG (128*k);have sr:=dL hI;rw [<-hI] at hk ⊢;rcases aD I P with hlt|hge
    ·have aek:I+128<=P:=by omega
     obtain ⟨g7,c7,e7,_,_,_,_,hx7,_⟩:=hO.form (by omega);cases e7;have HI:=dL hI;clear hI;have hVo:=Df NW (kJ l) k;generalize hV:iX start (kJ l) k=V at*;have HVo:=dL hVo;clear hVo;have c0:wr.cell? w=some (.int .u64 (V.a:Int)):=hH.at_ 0 rfl;have c1:wr.cell? (Qc w 1)=some (.int .u64 (V.b:Int)):=hH.at_ 1 rfl;have c2:wr.cell? (Qc w 2)=some (.int .u64 (V.c:Int)):=hH.at_ 2 rfl;have c3:wr.cell? (Qc w 3)=some (.int .u64 (V.d:Int)):=hH.at_ 3 rfl;have c4':wr.cell? (Qc w 4)=some (.int .u64 (V.e:Int)):=hH.at_ 4 rfl;have c5':wr.cell? (Qc w 5)=some (.int .u64 (V.f:Int)):=hH.at_ 5 rfl;have c6:wr.cell? (Qc w 6)=some (.int .u64 (V.g:Int)):=hH.at_ 6 rfl;have c7:wr.cell? (Qc w 7)=some (.int .u64 (V.h:Int)):=hH.at_ 7 rfl;have hw1:IntKind.i64.wrap ((I:Int)+128)=((I+128:Nat):Int):=by rw [IntKind.wrap_i64];omega
     have hne:¬ c5=I:=by omega
     have hT:((I:Int)+128).toNat=I+128:=by omega
     have hblk:((kJ l).drop I).length=P - I:=by rw [ah,Cs.o]
     have VA:=run_convert_bytes_back (P:=prog) wr.drew 259 9 5 ⟨g5,I,none⟩ (c5 - I) (((kJ l).drop I).take 128) underlying259 underlying5 underlying9 (λj hj=>by
      have hj':j < 128/\I+j < (kJ l).length:=by rw [aR,hblk] at hj;rw [Cs.o];omega
      have kL:(Addr.mk g5 I none).add j= ⟨g5,I+j,none⟩:=by unfold Addr.add;split <;> simp_all
      rw [kL];refine hx7 (I+j) _ ?_;simp [bv,hj'.2])
     have hlen:(((kJ l).drop I).take 128).length=128:=by rw [aR,hblk];omega
     rw [hlen] at VA;rw [show (ByteArray.mk (((kJ l).drop I).take 128).toArray)=bs (((kJ l).drop I).take 128) from rfl] at VA;generalize hS:((kJ l).drop I).take 128=S at*;have HS:=dL hS;have HSl:=dL hlen;clear hlen hblk hS hx7;have eV:(I:Int)<=(I:Int)+128:=by omega
     have jD:(I:Int)+128<=(c5:Int):=by omega
     have HV:=dL hV;have HO:=dL hO;have HH:=dL hH;have HB:=dL hb;clear hO hH hb hV;go_wp2_with fail;refine oq 7 (by kernel_rfl) (by kernel_rfl) ?_;simp only [dA,List.take_zero,List.drop_succ_cons,bz];repeat still_step
     refine wpStill_nil ?_;have hp:=SG V HVo.o S HSl.o wr.drew;obtain ⟨V2,FH⟩:=dG (Fy V S);rw [<-FH] at hp;have HV2:=dL FH;clear FH VA;go_wp2_with fail;refine hp.mono ?_;rintro e w8 ⟨rfl,uk⟩;have ZF:Blk w8 w 400 (av V):=HH.o.drew.below uk HH.o.drew.lt;have hO8:dQ w8 (w.heap.size+1) 1 (.slice (some g5) P c5) P (bv (kJ l)):=HO.o.drew.below uk;have BA:Below w w w8:=HB.o.drew.trans (uk.mono (show w.heap.size<=wr.heap.size by omega));have hs8:wr.heap.size<=w8.heap.size:=uk.size;have XT:∀v,(prog.info? 400).map (·.size)=some (av v).size:=λv=>by rw [rq];exact h26
     have JY:∀v,(av v).all (·.oneCell')=true:=λv=>by simp [av,Value.oneCell']
     have HO:=dL hO8;have HB:=dL BA;clear hO8 BA uk hp;go_wp2_with (refine wpList_store_row rfl 400 _ _ rfl w.heap.size (av V2) rfl rfl 400 (av V) ZF (XT _) ((rq _).trans (rq _).symm) (JY _) ?_)
     have hrow:w8.grownBy (w8.setRow w (av V2)) (some w.heap.size):=tH (dz _ _) (.inl rfl) _;refine ⟨⟨k+1,?_,congrArg (Value.int .i64) ?_,?_,HO.o.kept hrow (.inr (by simp [Value.ownBlock];omega)),jP HB.o (aB _) _,by simp;omega⟩,by simp [intOf];omega⟩
     ·have:=HI.o;omega
     ·have:=HI.o;omega
     ·have h9:iX start (kJ l) (k+1)=V2:=by
       rw [HV2.o,<-HS.o,<-HV.o,HI.o];rfl
      rw [h9];exact ZF.setRow _
    ·have hk2:k=P / 128:=by omega
     have dy:iX start (kJ l) k=iX start (kJ l) ((kJ l).length / 128):=by rw [Cs.o,hk2]
     have hsum:BY (iX start (kJ l) k)=S:=by rw [<-VZ.o];unfold sumL;rw [dy]
     clear dy;generalize iX start (kJ l) k=V at*;have ael:=dL hsum;have HB:=dL hb;have XT:∀v,(prog.info? 400).map (·.size)=some (av v).size:=λv=>by rw [rq];exact h26
     clear hsum hb hI hO hk2;go_wp2_with (refine wpList_load_row rfl 400 _ rfl w.heap.size rfl 400 (av V) (0,0) _ hH underlying400 rfl (XT _) ?_)
     clear hH;go_loopw [6,44] (λo i ws=>∃k:Nat,k<=8/\i=.int .i64 k/\dQ ws w 1 o (8*k) (bv ((V.list.take k).flatMap wQ))/\Below w w ws/\w.heap.size<=ws.heap.size) (λ_ i _=>8 - (intOf i).toNat)
     case atStart=>exact ⟨0,by omega,rfl,dQ.nil_ _ _ _,HB.o,by omega⟩
     case round=>
      obtain ⟨k,hk,rfl,hO,hb,hs⟩:=hrel;rcases aD k 8 with hlt|hge
      ·have hix:=Ni V k hlt
       have ZD:=GB V k hlt;generalize V.list.getD k 0=X at*;have HO:=dL hO;have HB:=dL hb;have MX:=dL ZD;clear hO hb ZD;go_wp2_with fail;refine (BK _ _ _ _ X _ HO.o hs (by omega)).mono ?_;rintro e w9 ⟨o9,rfl,YD,Zk⟩;have BA:=Zk.toBelow HB.o hs (λq hq=>(HO.o.ge q hq).1);have hs9:=Zk.1.size;rw [<-MX.o] at YD;have HO:=dL YD;have HB:=dL BA;clear YD Zk BA;go_wp2_with fail;exact ⟨⟨k+1,by omega,by go_num,HO.o,HB.o,by omega⟩,by simp [intOf];omega⟩
      ·obtain rfl:k=8:=by omega
       rw [show V.list.take 8=V.list from rfl,show V.list.flatMap wQ=BY V from rfl,ael.o] at hO;obtain ⟨g9,c9,rfl,_,_,_,_,hx9,_⟩:=hO.form (by omega);have hlen:=xA l;rw [VZ.o] at hlen;have VA:=run_convert_bytes_back (P:=prog) wr 259 9 5 ⟨g9,0,none⟩ c9 S underlying259 underlying5 underlying9 (λj hj=>by
        have kL:(Addr.mk g9 0 none).add j= ⟨g9,j,none⟩:=by unfold Addr.add;split <;> simp_all
        rw [kL];refine hx9 j _ ?_;simp [bv,hj])
       rw [hlen,show ByteArray.mk S.toArray=bs S from rfl] at VA;clear hlen hx9 hO;go_wp2_with fail;go_ret;exact ⟨rfl,hb⟩
theorem sum_c (l:List UInt8) (hl:l.length<=100000) (w:World):
  Calls prog 253 #[l] w (dM w (.string (bs (sumL l)))):=SI l hl _ (dL rfl) w
end Pt
namespace Pt
open Go.RowKit
attribute [local go_sem] dR dO dS dP
theorem Dg (l:List UInt8):(bs (sumL l)).extract 0 32=bs ((sumL l).take 32):=by rw [fM];rfl
theorem key_c (l:List UInt8) (hl:l.length<=100000) (w:World):
  Calls prog 179 #[l] w (dM w (.string (bs ((sumL l).take 32)))):=by
 have hlen:=xA l;have hk:=Dg l;have h:=sum_c l hl;generalize sumL l=S at*;have hS:((32:Nat))<=(bs S).size:=by rw [dR];omega
 go_enter func179,ntmps179;go_wp2_with fail;refine (h _).mono ?_;rintro e w1 ⟨rfl,hb⟩;go_wp2_with fail;go_ret;exact ⟨rfl,hb⟩
end Pt
end Go.Proofs.YtgdaahffmcfhpaaGreatDoor
