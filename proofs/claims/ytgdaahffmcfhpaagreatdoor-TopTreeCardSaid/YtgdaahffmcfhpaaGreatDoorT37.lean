/- Lemmas on the way: Ar At Au. -/
import Derived.Test.YtgdaahffmcfhpaaGreatDoorT36
import Derived.Test.YtgdaahffmcfhpaaGreatDoorT00
set_option maxRecDepth 100000
set_option maxHeartbeats 8000000
namespace Go.Proofs.YtgdaahffmcfhpaaGreatDoor
open Tryz
section
open Go.RowKit
attribute [local go_sem] dO dL dQ dM
def ew (w:World) (f:Nat) (args:Array Value) (v:Value):Prop:=∀w',Below w.heap.size w w'->Calls prog f args w' fun e w2=>e=.returned v/\Below w'.heap.size w' w2
theorem ew.later {w w':World} {f:Nat} {args:Array Value} {v:Value} (h:ew w f args v) (hb:Below w.heap.size w w'):ew w' f args v:=fun w2 dS=>h w2 (hb.trans (dS.mono hb.size))
structure Gq (w:World) (q:Nat) (A1 A2:Option Addr) (n1 c1 n2 c2:Nat) (W:World):Prop where
 k:Blk W q 212 #[.int .i64 1,.slice A1 n1 c1,.slice A2 n2 c2,.slice none 0 0,.slice none 0 0]
 b:Below w.heap.size w W
theorem Gq.cells {w:World} {q:Nat} {A1 A2:Option Addr} {n1 c1 n2 c2:Nat} {W:World} (h:Gq w q A1 A2 n1 c1 n2 c2 W):W.cell? ⟨q,1,none⟩=some (.slice A1 n1 c1)/\W.cell? ⟨q,2,none⟩=some (.slice A2 n2 c2):=⟨h.k.cell 1,h.k.cell 2⟩
theorem Gq.later {w:World} {q:Nat} {A1 A2:Option Addr} {n1 c1 n2 c2:Nat} {W W':World} (h:Gq w q A1 A2 n1 c1 n2 c2 W) (hb:Below W.heap.size W W'):Gq w q A1 A2 n1 c1 n2 c2 W':=⟨h.k.below hb h.k.lt,h.b.trans (hb.mono h.b.size)⟩
theorem right_1 (A1 A2:Option Addr) (n1 c1 n2 c2:Nat) (w:World) (h1:ew w 265 #[.slice A1 n1 c1,.int .i64 15,.func (.func 266) #[] #[]] (.bool true)) (h2:ew w 267 #[.slice A2 n2 c2,.int .i64 16,.func (.func 268) #[] #[]] (.bool true)):Calls prog 192 #[.agg #[.int .i64 1,.slice A1 n1 c1,.slice A2 n2 c2,.slice none 0 0,.slice none 0 0]] w (dJ w (.bool true)):=by
 have rN:=Blk.new w 212 #[.int .i64 1,.slice A1 n1 c1,.slice A2 n2 c2,.slice none 0 0,.slice none 0 0];have dR:=dD w (.cells #[.int .i64 1,.slice A1 n1 c1,.slice A2 n2 c2,.slice none 0 0,.slice none 0 0] 212);obtain ⟨w1,hw1⟩:=dB (w.alloc (.cells #[.int .i64 1,.slice A1 n1 c1,.slice A2 n2 c2,.slice none 0 0,.slice none 0 0] 212));rw [<-hw1] at rN dR;obtain ⟨q,hq⟩:=dB w.heap.size;rw [<-hq] at rN;have HW:=dH hw1;have HQ:=dH hq;have eE:=dH rN;have eH:=dH dR;clear rN dR hw1 hq;have H1:=dH h1;clear h1;have H2:=dH h2;clear h2;go_enter func192,ntmps192;go_upto_region 1 with (fail);rw [<-HW.o,<-HQ.o];have a0:=eE.o.cell 0;have a1:=eE.o.cell 1;have a2:=eE.o.cell 2;have a3:=eE.o.cell 3;have a4:=eE.o.cell 4;simp at a0 a1 a2 a3 a4;go_wp2_with fail;refine (H1.o _ eH.o).mono ?_;rintro e w2 ⟨rfl,hb⟩;have fF:=dH (eE.o.below hb eE.o.lt);have eG:=dF eH hb;clear hb a0 a1 a2 a3 a4 eE;have eE:=fF;clear fF;have a0:=eE.o.cell 0;have a1:=eE.o.cell 1;have a2:=eE.o.cell 2;have a3:=eE.o.cell 3;have a4:=eE.o.cell 4;simp at a0 a1 a2 a3 a4;go_wp2_with fail;refine (H2.o _ eG.o).mono ?_;rintro e w3 ⟨rfl,hb⟩;have fF:=dH (eE.o.below hb eE.o.lt);have dw:=dF eG hb;clear hb a0 a1 a2 a3 a4 eE;have eE:=fF;clear fF;have a0:=eE.o.cell 0;have a1:=eE.o.cell 1;have a2:=eE.o.cell 2;have a3:=eE.o.cell 3;have a4:=eE.o.cell 4;simp at a0 a1 a2 a3 a4;go_wp2_with fail;refine (FU 20 270 _).mono ?_;rintro e w4 ⟨rfl,hb⟩;have fF:=dH (eE.o.below hb eE.o.lt);have fD:=dF dw hb;clear hb a0 a1 a2 a3 a4 eE;have eE:=fF;clear fF;have a0:=eE.o.cell 0;have a1:=eE.o.cell 1;have a2:=eE.o.cell 2;have a3:=eE.o.cell 3;have a4:=eE.o.cell 4;simp at a0 a1 a2 a3 a4;go_wp2_with fail;refine (sH 16 271 _).mono ?_;rintro e w5 ⟨rfl,hb⟩;have fF:=dH (eE.o.below hb eE.o.lt);have fk:=dF fD hb;clear hb a0 a1 a2 a3 a4 eE;have eE:=fF;clear fF;have a0:=eE.o.cell 0;have a1:=eE.o.cell 1;have a2:=eE.o.cell 2;have a3:=eE.o.cell 3;have a4:=eE.o.cell 4;simp at a0 a1 a2 a3 a4;go_wp2_with fail;go_ret;exact ⟨rfl,fk.o⟩
theorem Mp (A1 A2:Option Addr) (n1 c1 n2 c2:Nat) (a1 a2:List UInt8) (w:World) (h1:ew w 265 #[.slice A1 n1 c1,.int .i64 15,.func (.func 266) #[] #[]] (.bool true)) (h2:ew w 267 #[.slice A2 n2 c2,.int .i64 16,.func (.func 268) #[] #[]] (.bool true)) (l1:ew w 193 #[.slice A1 n1 c1,.func (.func 178) #[] #[]] (.string (bs a1))) (l2:ew w 194 #[.slice A2 n2 c2,.func (.func 195) #[] #[]] (.string (bs a2))) (s1:a1.length<=1000000) (s2:a2.length<=1000000):Calls prog 125 #[.agg #[.int .i64 1,.slice A1 n1 c1,.slice A2 n2 c2,.slice none 0 0,.slice none 0 0]] w (dJ w (.tuple #[.string (bs ((Pt.Cd.numL 1++a1)++a2)),.int .i64 0])):=by
 have rN:=Blk.new w 212 #[.int .i64 1,.slice A1 n1 c1,.slice A2 n2 c2,.slice none 0 0,.slice none 0 0];have dR:=dD w (.cells #[.int .i64 1,.slice A1 n1 c1,.slice A2 n2 c2,.slice none 0 0,.slice none 0 0] 212);obtain ⟨w1,hw1⟩:=dB (w.alloc (.cells #[.int .i64 1,.slice A1 n1 c1,.slice A2 n2 c2,.slice none 0 0,.slice none 0 0] 212));rw [<-hw1] at rN dR;obtain ⟨q,hq⟩:=dB w.heap.size;rw [<-hq] at rN;have HW:=dH hw1;have HQ:=dH hq;have eE:=dH rN;have eH:=dH dR;clear rN dR hw1 hq;have L1:=dH l1;clear l1;have L2:=dH l2;clear l2;have HR:=dH (right_1 A1 A2 n1 c1 n2 c2 w1 (h1.later eH.o) (h2.later eH.o));clear h1;clear h2;have Zg:=eL 1;have k1:¬ 9223372036854775807 < (Pt.Cd.numL 1).length+a1.length:=by omega
 have k2:¬ 9223372036854775807 < (Pt.Cd.numL 1).length+a1.length+a2.length:=by omega
 have K1:=dH k1;have K2:=dH k2;clear k2;clear k1 Zg;go_enter func125,ntmps125;go_upto_region 1 with (fail);rw [<-HW.o,<-HQ.o];have b0:=eE.o.cell 0;have b1:=eE.o.cell 1;have b2:=eE.o.cell 2;have b3:=eE.o.cell 3;have b4:=eE.o.cell 4;simp at b0 b1 b2 b3 b4;go_wp2_with fail;refine HR.o.mono ?_;rintro e w2 ⟨rfl,hb⟩;have fF:=dH (eE.o.below hb eE.o.lt);have eG:=dF eH hb;clear hb b0 b1 b2 b3 b4 eE;have eE:=fF;clear fF;have b0:=eE.o.cell 0;have b1:=eE.o.cell 1;have b2:=eE.o.cell 2;have b3:=eE.o.cell 3;have b4:=eE.o.cell 4;simp at b0 b1 b2 b3 b4;go_wp2_with fail;refine (Pt.Cd.num_c 1 _ (by decide)).mono ?_;rintro e w3 ⟨rfl,hb⟩;have fF:=dH (eE.o.below hb eE.o.lt);have dw:=dF eG hb;clear hb b0 b1 b2 b3 b4 eE;have eE:=fF;clear fF;have b0:=eE.o.cell 0;have b1:=eE.o.cell 1;have b2:=eE.o.cell 2;have b3:=eE.o.cell 3;have b4:=eE.o.cell 4;simp at b0 b1 b2 b3 b4;go_wp2_with fail;have k1:=K1.o;have k2:=K2.o;have sW:dG (Gq w q A1 A2 n1 c1 n2 c2 w3.drew):=dH ⟨eE.o,dw.o.drew⟩;clear eE b0 b1 b2 b3 b4;go_region_held3 (fun w'=>w'.cell? ⟨q,1,none⟩=some (.slice A1 n1 c1)/\w'.cell? ⟨q,2,none⟩=some (.slice A2 n2 c2))
  (with_reducible first|exact Gq.cells xP.o|exact Gq.cells oo.o|exact Gq.cells rJ.o|exact Gq.cells sW.o)
  (first
   |(go_at_call 193;refine (L1.o _ (by with_reducible first|exact sW.o.b|exact oo.o.b)).mono ?_;rintro e w4 ⟨rfl,hb⟩;have rJ:dG (Gq w q A1 A2 n1 c1 n2 c2 w4):=dH (Gq.later (by with_reducible first|exact sW.o|exact oo.o) hb);clear hb)
   |(go_at_call 194;refine (L2.o _ (by with_reducible first|exact sW.o.b|exact rJ.o.b)).mono ?_;rintro e w5 ⟨rfl,hb⟩;have oo:dG (Gq w q A1 A2 n1 c1 n2 c2 w5):=dH (Gq.later (by with_reducible first|exact sW.o|exact rJ.o) hb);clear hb))
 all_goals
  go_wp2_with fail;go_ret2;first|exact ⟨rfl,oo.o.b⟩|exact ⟨rfl,rJ.o.b⟩
theorem Gr (A3:Option Addr) (n3 c3:Nat) (w:World) (h3:ew w 269 #[.slice A3 n3 c3,.int .i64 20,.func (.func 270) #[] #[]] (.bool true)):Calls prog 192 #[.agg #[.int .i64 2,.slice none 0 0,.slice none 0 0,.slice A3 n3 c3,.slice none 0 0]] w (dJ w (.bool true)):=by
 have rN:=Blk.new w 212 #[.int .i64 2,.slice none 0 0,.slice none 0 0,.slice A3 n3 c3,.slice none 0 0];have dR:=dD w (.cells #[.int .i64 2,.slice none 0 0,.slice none 0 0,.slice A3 n3 c3,.slice none 0 0] 212);obtain ⟨w1,hw1⟩:=dB (w.alloc (.cells #[.int .i64 2,.slice none 0 0,.slice none 0 0,.slice A3 n3 c3,.slice none 0 0] 212));rw [<-hw1] at rN dR;obtain ⟨q,hq⟩:=dB w.heap.size;rw [<-hq] at rN;have HW:=dH hw1;have HQ:=dH hq;have eE:=dH rN;have eH:=dH dR;clear rN dR hw1 hq;have H3:=dH h3;clear h3;go_enter func192,ntmps192;go_upto_region 1 with (fail);rw [<-HW.o,<-HQ.o];have a0:=eE.o.cell 0;have a1:=eE.o.cell 1;have a2:=eE.o.cell 2;have a3:=eE.o.cell 3;have a4:=eE.o.cell 4;simp at a0 a1 a2 a3 a4;go_wp2_with fail;refine (FT 15 266 _).mono ?_;rintro e w2 ⟨rfl,hb⟩;have fF:=dH (eE.o.below hb eE.o.lt);have eG:=dF eH hb;clear hb a0 a1 a2 a3 a4 eE;have eE:=fF;clear fF;have a0:=eE.o.cell 0;have a1:=eE.o.cell 1;have a2:=eE.o.cell 2;have a3:=eE.o.cell 3;have a4:=eE.o.cell 4;simp at a0 a1 a2 a3 a4;go_wp2_with fail;refine (sH 16 268 _).mono ?_;rintro e w3 ⟨rfl,hb⟩;have fF:=dH (eE.o.below hb eE.o.lt);have dw:=dF eG hb;clear hb a0 a1 a2 a3 a4 eE;have eE:=fF;clear fF;have a0:=eE.o.cell 0;have a1:=eE.o.cell 1;have a2:=eE.o.cell 2;have a3:=eE.o.cell 3;have a4:=eE.o.cell 4;simp at a0 a1 a2 a3 a4;go_wp2_with fail;refine (H3.o _ dw.o).mono ?_;rintro e w4 ⟨rfl,hb⟩;have fF:=dH (eE.o.below hb eE.o.lt);have fD:=dF dw hb;clear hb a0 a1 a2 a3 a4 eE;have eE:=fF;clear fF;have a0:=eE.o.cell 0;have a1:=eE.o.cell 1;have a2:=eE.o.cell 2;have a3:=eE.o.cell 3;have a4:=eE.o.cell 4;simp at a0 a1 a2 a3 a4;go_wp2_with fail;refine (sH 16 271 _).mono ?_;rintro e w5 ⟨rfl,hb⟩;have fF:=dH (eE.o.below hb eE.o.lt);have fk:=dF fD hb;clear hb a0 a1 a2 a3 a4 eE;have eE:=fF;clear fF;have a0:=eE.o.cell 0;have a1:=eE.o.cell 1;have a2:=eE.o.cell 2;have a3:=eE.o.cell 3;have a4:=eE.o.cell 4;simp at a0 a1 a2 a3 a4;go_wp2_with fail;go_ret;exact ⟨rfl,fk.o⟩
theorem Mq (A3:Option Addr) (n3 c3:Nat) (a1:List UInt8) (w:World) (h3:ew w 269 #[.slice A3 n3 c3,.int .i64 20,.func (.func 270) #[] #[]] (.bool true)) (l1:ew w 196 #[.slice A3 n3 c3,.func (.func 197) #[] #[]] (.string (bs a1))) (s1:a1.length<=1000000):Calls prog 125 #[.agg #[.int .i64 2,.slice none 0 0,.slice none 0 0,.slice A3 n3 c3,.slice none 0 0]] w (dJ w (.tuple #[.string (bs (Pt.Cd.numL 2++a1)),.int .i64 0])):=by
 have rN:=Blk.new w 212 #[.int .i64 2,.slice none 0 0,.slice none 0 0,.slice A3 n3 c3,.slice none 0 0];have dR:=dD w (.cells #[.int .i64 2,.slice none 0 0,.slice none 0 0,.slice A3 n3 c3,.slice none 0 0] 212);obtain ⟨w1,hw1⟩:=dB (w.alloc (.cells #[.int .i64 2,.slice none 0 0,.slice none 0 0,.slice A3 n3 c3,.slice none 0 0] 212));rw [<-hw1] at rN dR;obtain ⟨q,hq⟩:=dB w.heap.size;rw [<-hq] at rN;have HW:=dH hw1;have HQ:=dH hq;have eE:=dH rN;have eH:=dH dR;clear rN dR hw1 hq;have L1:=dH l1;clear l1;have HR:=dH (Gr A3 n3 c3 w1 (h3.later eH.o));clear h3;have Zg:=eL 2;have k1:¬ 9223372036854775807 < (Pt.Cd.numL 2).length+a1.length:=by omega
 have K1:=dH k1;clear k1 Zg;go_enter func125,ntmps125;go_upto_region 1 with (fail);rw [<-HW.o,<-HQ.o];have b0:=eE.o.cell 0;have b1:=eE.o.cell 1;have b2:=eE.o.cell 2;have b3:=eE.o.cell 3;have b4:=eE.o.cell 4;simp at b0 b1 b2 b3 b4;go_wp2_with fail;refine HR.o.mono ?_;rintro e w2 ⟨rfl,hb⟩;have fF:=dH (eE.o.below hb eE.o.lt);have eG:=dF eH hb;clear hb b0 b1 b2 b3 b4 eE;have eE:=fF;clear fF;have b0:=eE.o.cell 0;have b1:=eE.o.cell 1;have b2:=eE.o.cell 2;have b3:=eE.o.cell 3;have b4:=eE.o.cell 4;simp at b0 b1 b2 b3 b4;go_wp2_with fail;refine (Pt.Cd.num_c 2 _ (by decide)).mono ?_;rintro e w3 ⟨rfl,hb⟩;have fF:=dH (eE.o.below hb eE.o.lt);have dw:=dF eG hb;clear hb b0 b1 b2 b3 b4 eE;have eE:=fF;clear fF;have b0:=eE.o.cell 0;have b1:=eE.o.cell 1;have b2:=eE.o.cell 2;have b3:=eE.o.cell 3;have b4:=eE.o.cell 4;simp at b0 b1 b2 b3 b4;go_wp2_with fail;have k1:=K1.o;refine (L1.o _ dw.o).mono ?_;rintro e w4 ⟨rfl,hb⟩;have fD:=dF dw hb;clear hb b0 b1 b2 b3 b4 eE;go_wp2_with fail;go_ret2;exact ⟨rfl,fD.o⟩
theorem Gs (A4:Option Addr) (n4 c4:Nat) (w:World) (h4:ew w 267 #[.slice A4 n4 c4,.int .i64 16,.func (.func 271) #[] #[]] (.bool true)):Calls prog 192 #[.agg #[.int .i64 3,.slice none 0 0,.slice none 0 0,.slice none 0 0,.slice A4 n4 c4]] w (dJ w (.bool true)):=by
 have rN:=Blk.new w 212 #[.int .i64 3,.slice none 0 0,.slice none 0 0,.slice none 0 0,.slice A4 n4 c4];have dR:=dD w (.cells #[.int .i64 3,.slice none 0 0,.slice none 0 0,.slice none 0 0,.slice A4 n4 c4] 212);obtain ⟨w1,hw1⟩:=dB (w.alloc (.cells #[.int .i64 3,.slice none 0 0,.slice none 0 0,.slice none 0 0,.slice A4 n4 c4] 212));rw [<-hw1] at rN dR;obtain ⟨q,hq⟩:=dB w.heap.size;rw [<-hq] at rN;have HW:=dH hw1;have HQ:=dH hq;have eE:=dH rN;have eH:=dH dR;clear rN dR hw1 hq;have H4:=dH h4;clear h4;go_enter func192,ntmps192;go_upto_region 1 with (fail);rw [<-HW.o,<-HQ.o];have a0:=eE.o.cell 0;have a1:=eE.o.cell 1;have a2:=eE.o.cell 2;have a3:=eE.o.cell 3;have a4:=eE.o.cell 4;simp at a0 a1 a2 a3 a4;go_wp2_with fail;refine (FT 15 266 _).mono ?_;rintro e w2 ⟨rfl,hb⟩;have fF:=dH (eE.o.below hb eE.o.lt);have eG:=dF eH hb;clear hb a0 a1 a2 a3 a4 eE;have eE:=fF;clear fF;have a0:=eE.o.cell 0;have a1:=eE.o.cell 1;have a2:=eE.o.cell 2;have a3:=eE.o.cell 3;have a4:=eE.o.cell 4;simp at a0 a1 a2 a3 a4;go_wp2_with fail;refine (sH 16 268 _).mono ?_;rintro e w3 ⟨rfl,hb⟩;have fF:=dH (eE.o.below hb eE.o.lt);have dw:=dF eG hb;clear hb a0 a1 a2 a3 a4 eE;have eE:=fF;clear fF;have a0:=eE.o.cell 0;have a1:=eE.o.cell 1;have a2:=eE.o.cell 2;have a3:=eE.o.cell 3;have a4:=eE.o.cell 4;simp at a0 a1 a2 a3 a4;go_wp2_with fail;refine (FU 20 270 _).mono ?_;rintro e w4 ⟨rfl,hb⟩;have fF:=dH (eE.o.below hb eE.o.lt);have fD:=dF dw hb;clear hb a0 a1 a2 a3 a4 eE;have eE:=fF;clear fF;have a0:=eE.o.cell 0;have a1:=eE.o.cell 1;have a2:=eE.o.cell 2;have a3:=eE.o.cell 3;have a4:=eE.o.cell 4;simp at a0 a1 a2 a3 a4;go_wp2_with fail;refine (H4.o _ fD.o).mono ?_;rintro e w5 ⟨rfl,hb⟩;have fF:=dH (eE.o.below hb eE.o.lt);have fk:=dF fD hb;clear hb a0 a1 a2 a3 a4 eE;have eE:=fF;clear fF;have a0:=eE.o.cell 0;have a1:=eE.o.cell 1;have a2:=eE.o.cell 2;have a3:=eE.o.cell 3;have a4:=eE.o.cell 4;simp at a0 a1 a2 a3 a4;go_wp2_with fail;go_ret;exact ⟨rfl,fk.o⟩
theorem Mr (A4:Option Addr) (n4 c4:Nat) (a1:List UInt8) (w:World) (h4:ew w 267 #[.slice A4 n4 c4,.int .i64 16,.func (.func 271) #[] #[]] (.bool true)) (l1:ew w 194 #[.slice A4 n4 c4,.func (.func 195) #[] #[]] (.string (bs a1))) (s1:a1.length<=1000000):Calls prog 125 #[.agg #[.int .i64 3,.slice none 0 0,.slice none 0 0,.slice none 0 0,.slice A4 n4 c4]] w (dJ w (.tuple #[.string (bs (Pt.Cd.numL 3++a1)),.int .i64 0])):=by
 have rN:=Blk.new w 212 #[.int .i64 3,.slice none 0 0,.slice none 0 0,.slice none 0 0,.slice A4 n4 c4];have dR:=dD w (.cells #[.int .i64 3,.slice none 0 0,.slice none 0 0,.slice none 0 0,.slice A4 n4 c4] 212);obtain ⟨w1,hw1⟩:=dB (w.alloc (.cells #[.int .i64 3,.slice none 0 0,.slice none 0 0,.slice none 0 0,.slice A4 n4 c4] 212));rw [<-hw1] at rN dR;obtain ⟨q,hq⟩:=dB w.heap.size;rw [<-hq] at rN;have HW:=dH hw1;have HQ:=dH hq;have eE:=dH rN;have eH:=dH dR;clear rN dR hw1 hq;have L1:=dH l1;clear l1;have HR:=dH (Gs A4 n4 c4 w1 (h4.later eH.o));clear h4;have Zg:=eL 3;have k1:¬ 9223372036854775807 < (Pt.Cd.numL 3).length+a1.length:=by omega
 have K1:=dH k1;clear k1 Zg;go_enter func125,ntmps125;go_upto_region 1 with (fail);rw [<-HW.o,<-HQ.o];have b0:=eE.o.cell 0;have b1:=eE.o.cell 1;have b2:=eE.o.cell 2;have b3:=eE.o.cell 3;have b4:=eE.o.cell 4;simp at b0 b1 b2 b3 b4;go_wp2_with fail;refine HR.o.mono ?_;rintro e w2 ⟨rfl,hb⟩;have fF:=dH (eE.o.below hb eE.o.lt);have eG:=dF eH hb;clear hb b0 b1 b2 b3 b4 eE;have eE:=fF;clear fF;have b0:=eE.o.cell 0;have b1:=eE.o.cell 1;have b2:=eE.o.cell 2;have b3:=eE.o.cell 3;have b4:=eE.o.cell 4;simp at b0 b1 b2 b3 b4;go_wp2_with fail;refine (Pt.Cd.num_c 3 _ (by decide)).mono ?_;rintro e w3 ⟨rfl,hb⟩;have fF:=dH (eE.o.below hb eE.o.lt);have dw:=dF eG hb;clear hb b0 b1 b2 b3 b4 eE;have eE:=fF;clear fF;have b0:=eE.o.cell 0;have b1:=eE.o.cell 1;have b2:=eE.o.cell 2;have b3:=eE.o.cell 3;have b4:=eE.o.cell 4;simp at b0 b1 b2 b3 b4;go_wp2_with fail;have k1:=K1.o;refine (L1.o _ dw.o).mono ?_;rintro e w4 ⟨rfl,hb⟩;have fD:=dF dw hb;clear hb b0 b1 b2 b3 b4 eE;go_wp2_with fail;go_ret2;exact ⟨rfl,fD.o⟩
def pQ (w:World) (v:Value) (xs:List Int):Prop:=(xs=[]/\v=.slice none 0 0)\/∃b off c x,xs=[x]/\v=.slice (some ⟨b,off,none⟩) 1 c/\b < w.heap.size/\w.cell? ⟨b,off,none⟩=some (.int .i64 x)/\1<=c/\c<=9223372036854775807
def nQ (w:World) (v:Value) (xs:List (List UInt8)):Prop:=(xs=[]/\v=.slice none 0 0)\/∃b off c x,xs=[x]/\v=.slice (some ⟨b,off,none⟩) 1 c/\b < w.heap.size/\w.cell? ⟨b,off,none⟩=some (.string (bs x))/\1<=c/\c<=9223372036854775807
def sI (w:World) (v:Value) (xs:List dV):Prop:=(xs=[]/\v=.slice none 0 0)\/∃b off c x,xs=[x]/\v=.slice (some ⟨b,off,none⟩) 1 c/\b < w.heap.size/\(∀j u,(oc x)[j]? =some u->w.cell? ⟨b,off+j,none⟩=some u)/\1<=c/\c<=9223372036854775807
theorem pQ.later {w w':World} {v:Value} {xs:List Int} (h:pQ w v xs) (hb:Below w.heap.size w w'):pQ w' v xs:=by
 rcases h with h| ⟨b,off,c,x,h1,h2,h3,h4,h5⟩
 ·exact .inl h
 ·exact .inr ⟨b,off,c,x,h1,h2,aN h3 hb.size,(aI (a:=⟨b,off,none⟩) (hb.block b h3)).trans h4,h5⟩
theorem nQ.later {w w':World} {v:Value} {xs:List (List UInt8)} (h:nQ w v xs) (hb:Below w.heap.size w w'):nQ w' v xs:=by
 rcases h with h| ⟨b,off,c,x,h1,h2,h3,h4,h5⟩
 ·exact .inl h
 ·exact .inr ⟨b,off,c,x,h1,h2,aN h3 hb.size,(aI (a:=⟨b,off,none⟩) (hb.block b h3)).trans h4,h5⟩
theorem sI.later {w w':World} {v:Value} {xs:List dV} (h:sI w v xs) (hb:Below w.heap.size w w'):sI w' v xs:=by
 rcases h with h| ⟨b,off,c,x,h1,h2,h3,h4,h5⟩
 ·exact .inl h
 ·exact .inr ⟨b,off,c,x,h1,h2,aN h3 hb.size,fun j u hu=>(aI (a:=⟨b,off+j,none⟩) (hb.block b h3)).trans (h4 j u hu),h5⟩
theorem pQ.kp {S:Nat->Prop} {w w':World} {v:Value} {xs:List Int} (h:pQ w v xs) (k:dY S w w') (hn:∀b off n c,v=.slice (some ⟨b,off,none⟩) n c->¬ S b):pQ w' v xs:=by
 rcases h with h| ⟨b,off,c,x,h1,h2,h3,h4,h5⟩
 ·exact .inl h
 ·exact .inr ⟨b,off,c,x,h1,h2,aN h3 k.size,(aI (a:=⟨b,off,none⟩) (k.block b h3 (hn _ _ _ _ h2))).trans h4,h5⟩
theorem nQ.kp {S:Nat->Prop} {w w':World} {v:Value} {xs:List (List UInt8)} (h:nQ w v xs) (k:dY S w w') (hn:∀b off n c,v=.slice (some ⟨b,off,none⟩) n c->¬ S b):nQ w' v xs:=by
 rcases h with h| ⟨b,off,c,x,h1,h2,h3,h4,h5⟩
 ·exact .inl h
 ·exact .inr ⟨b,off,c,x,h1,h2,aN h3 k.size,(aI (a:=⟨b,off,none⟩) (k.block b h3 (hn _ _ _ _ h2))).trans h4,h5⟩
theorem sI.kp {S:Nat->Prop} {w w':World} {v:Value} {xs:List dV} (h:sI w v xs) (k:dY S w w') (hn:∀b off n c,v=.slice (some ⟨b,off,none⟩) n c->¬ S b):sI w' v xs:=by
 rcases h with h| ⟨b,off,c,x,h1,h2,h3,h4,h5⟩
 ·exact .inl h
 ·exact .inr ⟨b,off,c,x,h1,h2,aN h3 k.size,fun j u hu=>(aI (a:=⟨b,off+j,none⟩) (k.block b h3 (hn _ _ _ _ h2))).trans (h4 j u hu),h5⟩
theorem pQ.form {w:World} {v:Value} {xs:List Int} (h:pQ w v xs):∃A c,v=.slice A xs.length c:=by
 rcases h with ⟨rfl,rfl⟩| ⟨b,off,c,x,rfl,rfl,_⟩
 ·exact ⟨none,0,rfl⟩
 ·exact ⟨_,c,rfl⟩
theorem nQ.form {w:World} {v:Value} {xs:List (List UInt8)} (h:nQ w v xs):∃A c,v=.slice A xs.length c:=by
 rcases h with ⟨rfl,rfl⟩| ⟨b,off,c,x,rfl,rfl,_⟩
 ·exact ⟨none,0,rfl⟩
 ·exact ⟨_,c,rfl⟩
theorem sI.form {w:World} {v:Value} {xs:List dV} (h:sI w v xs):∃A c,v=.slice A xs.length c:=by
 rcases h with ⟨rfl,rfl⟩| ⟨b,off,c,x,rfl,rfl,_⟩
 ·exact ⟨none,0,rfl⟩
 ·exact ⟨_,c,rfl⟩
theorem oK {α:Type} {xs:List α} (h:xs.length<=1):xs=[]\/∃x,xs=[x]:=by
 cases xs with
 |nil=>exact .inl rfl
 |cons x t=>
  cases t with
  |nil=>exact .inr ⟨x,rfl⟩
  |cons y t=>simp at h
theorem iO {w:World} {B size n:Nat} {v:Value} {xs:List Value} (h:dN w B size v n xs) (hn:n=1):∃g c,v=.slice (some ⟨g,0,none⟩) 1 c/\g < w.heap.size/\B<=g/\(∀j u,xs[j]? =some u->w.cell? ⟨g,0+j,none⟩=some u)/\1<=c/\c<=9223372036854775807:=by
 subst hn;obtain ⟨g,cap,rfl,hb,hlt,hnc,hcm,hc,hf⟩:=h.form (by decide);have Zh:cap<=9223372036854775807:=by unfold maxLen at hcm;omega
 exact ⟨g,cap,rfl,hlt,hb,fun j u hu=>by rw [aY];exact hc j u hu,hnc,Zh⟩
theorem fZ.ls {w:World} {B:Nat} {v:Value} {xs:List (List UInt8)} (h:fZ w B v xs) (hn:rB v xs) (h1:xs.length<=1):nQ w v xs:=by
 match xs,h1 with
 | [],_=>exact .inl ⟨rfl,hn rfl⟩
 | [x],_=>
  obtain ⟨g,c,rfl,hlt,-,hc,hk⟩:=iO h rfl;exact .inr ⟨g,0,c,x,rfl,rfl,hlt,hc 0 _ rfl,hk⟩
theorem uC.ls {w:World} {B:Nat} {v:Value} {xs:List dV} (h:uC w B v xs) (hn:rB v xs) (h1:xs.length<=1):sI w v xs:=by
 rcases oK h1 with rfl| ⟨x,rfl⟩
 ·exact .inl ⟨rfl,hn rfl⟩
 ·obtain ⟨g,c,rfl,hlt,-,hc,hk⟩:=iO h rfl
  refine .inr ⟨g,0,c,x,rfl,rfl,hlt,fun j u hu=>hc j u ?_,hk⟩;simpa [BX] using hu
theorem aaP {w:World} {A:Option Addr} {n c:Nat} {x:Int} (h:Sl w 1 ES A n c [x]):pQ w (.slice A n c) [x]:=by
 obtain ⟨b,off,rfl,rfl,h1,h2,h3,h4⟩:=Xj h;exact .inr ⟨b,off,c,x,rfl,rfl,h3,h4,h1,h2⟩
def DE (xs:List Int):Prop:=∀x∈xs,0<=x/\x<=1099511627776
def sJ (xs:List (List UInt8)):Prop:=∀x∈xs,x.length=32
def zK (xs:List dV):Prop:=∀x∈xs,D7 x/\r9 x=0
def Mt (xs:List (List UInt8)):Prop:=∀x∈xs,1<=x.length/\x.length<=256
def js (xs:List Int):List UInt8:=Pt.Cd.numL xs.length++xs.flatMap Pt.Cd.numL
def j3 (xs:List (List UInt8)):List UInt8:=Pt.Cd.numL xs.length++xs.flatMap Pt.Cd.textL
def mK (xs:List dV):List UInt8:=Pt.Cd.numL xs.length++xs.flatMap fun x=>Pt.Cd.textL (gG x)
theorem Jf (args:Array Value) (w:World):(callFunc 266 args).run prog w=.ok (.enter 266 args) w:=enters_of func266 (by kernel_rfl) rfl args w
theorem Jg (args:Array Value) (w:World):(callFunc 268 args).run prog w=.ok (.enter 268 args) w:=enters_of func268 (by kernel_rfl) rfl args w
theorem Jh (args:Array Value) (w:World):(callFunc 270 args).run prog w=.ok (.enter 270 args) w:=enters_of func270 (by kernel_rfl) rfl args w
theorem Ji (args:Array Value) (w:World):(callFunc 271 args).run prog w=.ok (.enter 271 args) w:=enters_of func271 (by kernel_rfl) rfl args w
theorem Y1 (x:Int) (h1:0<=x) (h2:x<=1099511627776) (w:World):Calls prog 266 #[.int .i64 x] w (dJ w (.bool true)):=by
 have d1:decide (0<=x)=true:=by simp [h1]
 have d2:decide (x<=1099511627776)=true:=by simp [h2]
 clear h1 h2;go_enter func266,ntmps266;go_wp2_with fail;go_ret;exact ⟨rfl,aC _ _⟩
theorem Y2 (x:List UInt8) (h1:x.length=32) (w:World):Calls prog 268 #[.string (bs x)] w (dJ w (.bool true)):=by
 have d1:((x.length:Int) ==32)=true:=by simp [h1]
 clear h1;go_enter func268,ntmps268;go_wp2_with fail;go_ret;exact ⟨rfl,aC _ _⟩
theorem Y3 (x:List UInt8) (h1:1<=x.length) (h2:x.length<=256) (w:World):Calls prog 271 #[.string (bs x)] w (dJ w (.bool true)):=by
 have d0:(x ==[])=false:=by
  rw [beq_eq_false_iff_ne];exact fun e=>by rw [e] at h1;simp at h1
 have d1:decide ((x.length:Int)<=256)=true:=by simp;omega
 clear h1 h2;go_enter func271,ntmps271;go_wp2_with fail;go_ret;exact ⟨rfl,aC _ _⟩
theorem Y4 (x:dV) (hx:D7 x) (hrc:r9 x=0) (w:World):Calls prog 270 #[ov x] w (dJ w (.bool true)):=by
 have HR:=dH (jL x (by have:=hx.nm;omega) (by have:=hx.mf;omega));rw [hrc] at HR;have fq:Blk (w.alloc (.cells (oc x).toArray 32)) w.heap.size 32 (oc x).toArray:=Blk.new w 32 (oc x).toArray;have dR:=dD w (.cells (oc x).toArray 32);obtain ⟨w1,hw1⟩:=dB (w.alloc (.cells (oc x).toArray 32));rw [<-hw1] at fq dR;obtain ⟨q,hq⟩:=dB w.heap.size;rw [<-hq] at fq;have HW:=dH (dK (x:=x) hw1);have HQ:=dH hq;have eH:=dH dR;obtain ⟨c0,c1,c2,c3,c4,c5,c6,c7,c8,c9,jt⟩:=eO fq;clear fq dR hw1 hq hx hrc;unfold ov at HR ⊢;go_enter func270,ntmps270;go_upto_region 1 with (fail);rw [<-HW.o,<-HQ.o];go_wp2_with fail;refine (HR.o _).mono ?_;rintro e w2 ⟨rfl,dS⟩;have eG:=dF eH dS;clear dS c0 c1 c2 c3 c4 c5 c6 c7 c8 c9 jt;go_wp2_with fail;go_ret;exact ⟨rfl,eG.o⟩
theorem Gt {w:World} {v:Value} {xs:List Int} (h:pQ w v xs) (ho:DE xs):ew w 265 #[v,.int .i64 15,.func (.func 266) #[] #[]] (.bool true):=fun w' hb=>by
 rcases h.later hb with ⟨rfl,rfl⟩| ⟨b,off,c,x,rfl,rfl,h3,h4,_⟩
 ·exact FT 15 266 w'
 ·have:=ho x (by simp)
  exact U2 15 (by decide) 266 Jf x (Y1 x this.1 this.2) b off c w' h3 h4
theorem Gu {w:World} {v:Value} {xs:List (List UInt8)} (h:nQ w v xs) (ho:sJ xs):ew w 267 #[v,.int .i64 16,.func (.func 268) #[] #[]] (.bool true):=fun w' hb=>by
 rcases h.later hb with ⟨rfl,rfl⟩| ⟨b,off,c,x,rfl,rfl,h3,h4,_⟩
 ·exact sH 16 268 w'
 ·exact Mj 16 (by decide) 268 Jg x (Y2 x (ho x (by simp))) b off c w' h3 h4
theorem Gv {w:World} {v:Value} {xs:List dV} (h:sI w v xs) (ho:zK xs):ew w 269 #[v,.int .i64 20,.func (.func 270) #[] #[]] (.bool true):=fun w' hb=>by
 rcases h.later hb with ⟨rfl,rfl⟩| ⟨b,off,c,x,rfl,rfl,h3,h4,_⟩
 ·exact FU 20 270 w'
 ·have:=ho x (by simp)
  exact U3 20 (by decide) 270 Jh x (Y4 x this.1 this.2) b off c w' h3 h4
theorem Gw {w:World} {v:Value} {xs:List (List UInt8)} (h:nQ w v xs) (ho:Mt xs):ew w 267 #[v,.int .i64 16,.func (.func 271) #[] #[]] (.bool true):=fun w' hb=>by
 rcases h.later hb with ⟨rfl,rfl⟩| ⟨b,off,c,x,rfl,rfl,h3,h4,_⟩
 ·exact sH 16 271 w'
 ·have:=ho x (by simp)
  exact Mj 16 (by decide) 271 Ji x (Y3 x this.1 this.2) b off c w' h3 h4
theorem Mu {w:World} {v:Value} {xs:List Int} (h:pQ w v xs) (ho:DE xs):ew w 193 #[v,.func (.func 178) #[] #[]] (.string (bs (js xs))):=fun w' hb=>by
 rcases h.later hb with ⟨rfl,rfl⟩| ⟨b,off,c,x,rfl,rfl,h3,h4,_⟩
 ·have:=Qs w'
  simpa [js] using this
 ·have h1:=ho x (by simp)
  have:=Qt x (by unfold nU;omega) b off c w' h3 h4;simpa [js] using this
theorem DF {w:World} {v:Value} {xs:List (List UInt8)} (h:nQ w v xs) (ho:∀x∈xs,x.length<=1000):ew w 194 #[v,.func (.func 195) #[] #[]] (.string (bs (j3 xs))):=fun w' hb=>by
 rcases h.later hb with ⟨rfl,rfl⟩| ⟨b,off,c,x,rfl,rfl,h3,h4,_⟩
 ·have:=Qu w'
  simpa [j3] using this
 ·have h1:=ho x (by simp)
  have:=Qv x (by omega) b off c w' h3 h4;simpa [j3] using this
theorem Mv {w:World} {v:Value} {xs:List dV} (h:sI w v xs) (ho:zK xs):ew w 196 #[v,.func (.func 197) #[] #[]] (.string (bs (mK xs))):=fun w' hb=>by
 rcases h.later hb with ⟨rfl,rfl⟩| ⟨b,off,c,x,rfl,rfl,h3,h4,_⟩
 ·have:=Qw w'
  simpa [mK] using this
 ·have h1:=ho x (by simp)
  have:=Qx x h1.1 h1.2 b off c w' h3 h4;simpa [mK] using this
theorem sL {xs:List Int} (h:xs.length<=1):(js xs).length<=18:=by
 unfold js;have h0:=eL xs.length
 match xs,h with
 | [],_=>simp;simp at h0;omega
 | [x],_=>have:=eL x;simp at h0 ⊢;omega
theorem kK {xs:List (List UInt8)} (h:xs.length<=1) (ho:∀x∈xs,x.length<=1000):(j3 xs).length<=1018:=by
 unfold j3;have h0:=eL xs.length
 match xs,h with
 | [],_=>simp;simp at h0;omega
 | [x],_=>have:=fK x;have:=ho x (by simp);simp at h0 ⊢;omega
theorem sM {xs:List dV} (h:xs.length<=1) (ho:zK xs):(mK xs).length<=3000:=by
 unfold mK;have h0:=eL xs.length;rcases oK h with rfl| ⟨x,rfl⟩
 ·simp only [List.flatMap_nil,bD];omega
 ·have h1:=fK (gG x)
  have h2:=l8 x (ho x (by simp)).1;simp only [au,List.flatMap_nil,bD,aO];omega
theorem pQ.le {w:World} {v:Value} {xs:List Int} (h:pQ w v xs):xs.length<=1:=by
 rcases h with ⟨rfl,_⟩| ⟨_,_,_,_,rfl,_⟩ <;> simp
theorem nQ.le {w:World} {v:Value} {xs:List (List UInt8)} (h:nQ w v xs):xs.length<=1:=by
 rcases h with ⟨rfl,_⟩| ⟨_,_,_,_,rfl,_⟩ <;> simp
theorem sI.le {w:World} {v:Value} {xs:List dV} (h:sI w v xs):xs.length<=1:=by
 rcases h with ⟨rfl,_⟩| ⟨_,_,_,_,rfl,_⟩ <;> simp
def dz (v:List Int) (k:List (List UInt8)):List UInt8:=(Pt.Cd.numL 1++js v)++j3 k
def sN (l:List dV):List UInt8:=Pt.Cd.numL 2++mK l
def sO (p:List (List UInt8)):List UInt8:=Pt.Cd.numL 3++j3 p
theorem sP {w:World} {v k:Value} {xs:List Int} {ks:List (List UInt8)} (hv:pQ w v xs) (hk:nQ w k ks) (h1:DE xs) (h2:sJ ks):
  Calls prog 125 #[.agg #[.int .i64 1,v,k,.slice none 0 0,.slice none 0 0]] w (dJ w (.tuple #[.string (bs (dz xs ks)),.int .i64 0])):=by
 have hs2:∀x∈ks,x.length<=1000:=fun x hx=>by have:=h2 x hx;omega
 have a1:=Gt hv h1;have a2:=Gu hk h2;have b1:=Mu hv h1;have b2:=DF hk hs2;have e1:=sL hv.le;have e2:=kK hk.le hs2;obtain ⟨A1,c1,rfl⟩:=hv.form;obtain ⟨A2,c2,rfl⟩:=hk.form;exact Mp A1 A2 _ c1 _ c2 _ _ w a1 a2 b1 b2 (by omega) (by omega)
theorem Qy {w:World} {v:Value} {xs:List dV} (hv:sI w v xs) (h1:zK xs):
  Calls prog 125 #[.agg #[.int .i64 2,.slice none 0 0,.slice none 0 0,v,.slice none 0 0]] w (dJ w (.tuple #[.string (bs (sN xs)),.int .i64 0])):=by
 have a1:=Gv hv h1;have b1:=Mv hv h1;have e1:=sM hv.le h1;obtain ⟨A1,c1,rfl⟩:=hv.form;exact Mq A1 _ c1 _ w a1 b1 (by omega)
theorem Qz {w:World} {v:Value} {xs:List (List UInt8)} (hv:nQ w v xs) (h1:Mt xs):
  Calls prog 125 #[.agg #[.int .i64 3,.slice none 0 0,.slice none 0 0,.slice none 0 0,v]] w (dJ w (.tuple #[.string (bs (sO xs)),.int .i64 0])):=by
 have hs2:∀x∈xs,x.length<=1000:=fun x hx=>by have:=h1 x hx;omega
 have a1:=Gw hv h1;have b1:=DF hv hs2;have e1:=kK hv.le hs2;obtain ⟨A1,c1,rfl⟩:=hv.form;exact Mr A1 _ c1 _ w a1 b1 (by omega)
structure zL (w:World) (q g:Nat) (r:List UInt8):Prop where
 b:Blk w q 410 #[.pointer (some ⟨g,0,none⟩),.bool false]
 rd:tw w g r
 n:q≠g
theorem zL.call {w w':World} {q g:Nat} {r r':List UInt8} (h:zL w q g r) (hr:tw w' g r') (hg:w.grownBy w' (some g)):zL w' q g r':=⟨h.b.grown hg (by intro e;cases e;exact h.n rfl),hr,h.n⟩
theorem zL.below {w w':World} {q g:Nat} {r:List UInt8} (h:zL w q g r) (hb:Below w.heap.size w w'):zL w' q g r:=⟨h.b.below hb h.b.lt,h.rd.below hb,h.n⟩
structure xL (w:World) (p b q g:Nat) (r:List UInt8):Prop where
 tk:zL w q g r
 p_:Blk w p 408 #[.pointer (some ⟨q,0,none⟩)]
 b_:Blk w b 4 #[.bool false]
 pg:p≠g
 pb:p≠b
 bg:b≠g
 bq:q≠b
theorem xL.call {w w':World} {p b q g:Nat} {r r':List UInt8} (h:xL w p b q g r) (hr:tw w' g r') (hg:w.grownBy w' (some g)):xL w' p b q g r':=⟨h.tk.call hr hg,h.p_.grown hg (by intro e;cases e;exact h.pg rfl),h.b_.grown hg (by intro e;cases e;exact h.bg rfl),h.pg,h.pb,h.bg,h.bq⟩
theorem xL.below {w w':World} {p b q g:Nat} {r:List UInt8} (h:xL w p b q g r) (hb:Below w.heap.size w w'):xL w' p b q g r:=⟨h.tk.below hb,h.p_.below hb h.p_.lt,h.b_.below hb h.b_.lt,h.pg,h.pb,h.bg,h.bq⟩
theorem tw.keep {S:Nat->Prop} {w w':World} {g:Nat} {r:List UInt8} (h:tw w g r) (k:dY S w w') (hn:¬ S g):tw w' g r:=by
 obtain ⟨d,a,h,h2⟩:=h;exact ⟨d,a,Blk.kp h k hn,h2⟩
theorem xL.set {w:World} {p b q g:Nat} {r:List UInt8} (h:xL w p b q g r):xL (w.setCell ⟨b,0,none⟩ (.bool false)) p b q g r:=by
 have k:dY (fun i=>i=b) w (w.setCell ⟨b,0,none⟩ (.bool false)):=de (S:=fun i=>i=b) (eX (fun i=>i=b) w) ⟨b,0,none⟩ _ (fun _=>rfl);have hb:=h.b_.set_ 0 (.bool false);exact ⟨⟨h.tk.b.kp k h.bq,h.tk.rd.keep k (fun e=>h.bg e.symm),h.tk.n⟩,h.p_.kp k h.pb,by simpa using hb,h.pg,h.pb,h.bg,h.bq⟩
theorem aaQ (x:dV) (hx:D7 x) (hrc:r9 x=0) (r:List UInt8) (p b q g:Nat) (w:World) (h:xL w p b q g (Pt.Cd.textL (gG x)++r)):
  Calls prog 331 #[.pointer (some ⟨p,0,none⟩),.pointer (some ⟨b,0,none⟩)] w fun e w'=>e=.returned (ov x)/\xL w' p b q g r/\dY (fun i=>i=g\/i=b) w w':=by
 have EI:=l8 x hx;have HD:=dH (FK x hx hrc);have dR:=dD w (.cells rU.toArray 32);have hz1:Blk (w.alloc (.cells rU.toArray 32)) w.heap.size 32 rU.toArray:=Blk.new w 32 rU.toArray;obtain ⟨w1,hw1⟩:=dB (w.alloc (.cells rU.toArray 32));rw [<-hw1] at dR hz1;obtain ⟨z,hz⟩:=dB w.heap.size;rw [<-hz] at hz1;have rG:=dH (show w1=w.alloc (.cells #[.int .i64 0,.int .i64 0,.int .i64 0,.int .i64 0,.int .i64 0,.int .i64 0,.bool false,.int .i64 0,.int .i64 0,.string ⟨#[]⟩,.string ⟨#[]⟩] 32) from hw1);have HZ:=dH hz;have zg:z≠g:=by have:=h.tk.rd.lt;omega
 have zq:z≠q:=by have:=h.tk.b.lt;omega
 have zp:z≠p:=by have:=h.p_.lt;omega
 have zb:z≠b:=by have:=h.b_.lt;omega
 have hh:=h.below dR;have a0:=hh.p_.cell 0;have a1:=hh.tk.b.cell 0;simp at a0 a1;have HH:=dH hh;have HZB:=dH hz1;have eH:=dH dR;have BF:=dH (show w.heap.size<=z by omega);clear hh hw1 hz hz1 dR h hx hrc;unfold ov at HD ⊢;go_enter func331,ntmps331;go_upto_region 1 with (fail);rw [<-rG.o,<-HZ.o];go_wp2_with fail;refine (AG (gG x) HH.o.tk.rd (by omega)).mono ?_;rintro e w2 ⟨rfl,hr2,hg2⟩;have qP:=dH (HH.o.call hr2 hg2);have iH:=dH (HZB.o.grown hg2 (by intro e;cases e;exact zg rfl));have Kr:dG (dY (fun i=>i=g\/i=b) w w2):=dH (eB (eR (S:=fun i=>i=g\/i=b) eH.o) (ep (S:=fun i=>i=g\/i=b) hg2 (fun i hi=>by cases hi;exact .inl rfl)) (fun _ _ h=>h));clear hr2 hg2 a0 a1 HH HZB eH EI;go_wp2_with fail;refine (HD.o _).mono ?_;rintro e w3 ⟨rfl,di⟩;have eN:=dD w3 (.cells (oc x).toArray 32);have HX:=dH (Blk.new w3 32 (oc x).toArray);have mY:=dH ((qP.o.below di).below eN);have OU:=dH ((iH.o.below di iH.o.lt).below eN (by have:=iH.o.lt;have:=di.size;omega));have nT:=dH (gI (gI Kr.o di) eN);obtain ⟨w4,uP⟩:=dB (w3.alloc (.cells (oc x).toArray 32));rw [<-uP] at HX mY OU nT;obtain ⟨c,hc⟩:=dB w3.heap.size;rw [<-hc] at HX;have HW4:=dH (dK (x:=x) uP);have HC:=dH hc;have cb:b≠c:=by have:=qP.o.b_.lt;have:=di.size;omega
 have cz:c≠z:=by have:=iH.o.lt;have:=di.size;omega
 clear di eN uP hc qP iH Kr;go_upto_region 2 with (fail);rw [<-HW4.o,<-HC.o];have b0:=mY.o.b_.cell 0;have f0:=mY.o.b_.frozen 0;simp at b0;have Dt:=dH (HX.o.far (p:=⟨b,0,none⟩) (Ne.symm cb) (.bool false));have uL:=dH (OU.o.far (p:=⟨b,0,none⟩) zb (.bool false));have kE:=dH (mY.o.set);have Dl:=dH (de nT.o ⟨b,0,none⟩ (.bool false) (fun _=>.inr rfl));obtain ⟨w5,gL⟩:=dB (w4.setCell ⟨b,0,none⟩ (.bool false));rw [<-gL] at Dt uL kE Dl;have ug:=dH gL;clear HX OU mY nT gL;go_upto_region 3 with (fail);rw [<-ug.o];clear b0 f0;obtain ⟨c0,c1,c2,c3,c4,c5,c6,c7,c8,c9,jt⟩:=eO Dt.o;have y0:=uL.o.frozen 0;have b0:=uL.o.cell 0;have y1:=uL.o.frozen 1;have b1:=uL.o.cell 1;have y2:=uL.o.frozen 2;have b2:=uL.o.cell 2;have y3:=uL.o.frozen 3;have b3:=uL.o.cell 3;have y4:=uL.o.frozen 4;have b4:=uL.o.cell 4;have y5:=uL.o.frozen 5;have b5:=uL.o.cell 5;have y6:=uL.o.frozen 6;have b6:=uL.o.cell 6;have y7:=uL.o.frozen 7;have b7:=uL.o.cell 7;have y8:=uL.o.frozen 8;have b8:=uL.o.cell 8;have y9:=uL.o.frozen 9;have b9:=uL.o.cell 9;have y10:=uL.o.frozen 10;have b10:=uL.o.cell 10;simp [rU] at b0 b1 b2 b3 b4 b5 b6 b7 b8 b9 b10;have hB:=(((((((((((uL.o.set_ 0 (.int .i64 x.st.1)).set_ 1 (.int .i64 x.st.2)).set_ 2 (.int .i64 x.seq)).set_ 3 (.int .i64 x.kind)).set_ 4 (.int .i64 x.node.1)).set_ 5 (.int .i64 x.node.2)).set_ 6 (.bool x.dir)).set_ 7 (.int .i64 x.par.1)).set_ 8 (.int .i64 x.par.2)).set_ 9 (.string (bs x.nm))).set_ 10 (.string (bs x.mf)));have yL:=(de (S:=fun i=>i=z) (de (S:=fun i=>i=z) (de (S:=fun i=>i=z) (de (S:=fun i=>i=z) (de (S:=fun i=>i=z) (de (S:=fun i=>i=z) (de (S:=fun i=>i=z) (de (S:=fun i=>i=z) (de (S:=fun i=>i=z) (de (S:=fun i=>i=z) (de (S:=fun i=>i=z) (eX (fun i=>i=z) w5) ⟨z,0,none⟩ (.int .i64 x.st.1) (fun _=>rfl)) ⟨z,1,none⟩ (.int .i64 x.st.2) (fun _=>rfl)) ⟨z,2,none⟩ (.int .i64 x.seq) (fun _=>rfl)) ⟨z,3,none⟩ (.int .i64 x.kind) (fun _=>rfl)) ⟨z,4,none⟩ (.int .i64 x.node.1) (fun _=>rfl)) ⟨z,5,none⟩ (.int .i64 x.node.2) (fun _=>rfl)) ⟨z,6,none⟩ (.bool x.dir) (fun _=>rfl)) ⟨z,7,none⟩ (.int .i64 x.par.1) (fun _=>rfl)) ⟨z,8,none⟩ (.int .i64 x.par.2) (fun _=>rfl)) ⟨z,9,none⟩ (.string (bs x.nm)) (fun _=>rfl)) ⟨z,10,none⟩ (.string (bs x.mf)) (fun _=>rfl));have KK:=dH (show xL (((((((((((w5.setCell ⟨z,0,none⟩ (.int .i64 x.st.1)).setCell ⟨z,1,none⟩ (.int .i64 x.st.2)).setCell ⟨z,2,none⟩ (.int .i64 x.seq)).setCell ⟨z,3,none⟩ (.int .i64 x.kind)).setCell ⟨z,4,none⟩ (.int .i64 x.node.1)).setCell ⟨z,5,none⟩ (.int .i64 x.node.2)).setCell ⟨z,6,none⟩ (.bool x.dir)).setCell ⟨z,7,none⟩ (.int .i64 x.par.1)).setCell ⟨z,8,none⟩ (.int .i64 x.par.2)).setCell ⟨z,9,none⟩ (.string (bs x.nm))).setCell ⟨z,10,none⟩ (.string (bs x.mf))) p b q g r from ⟨⟨kE.o.tk.b.kp yL (fun e=>zq e.symm),kE.o.tk.rd.keep yL (fun e=>zg e.symm),kE.o.tk.n⟩,kE.o.p_.kp yL (fun e=>zp e.symm),kE.o.b_.kp yL (fun e=>zb e.symm),kE.o.pg,kE.o.pb,kE.o.bg,kE.o.bq⟩);have OP:=dH (eB Dl.o yL (fun i hi e=>by have:=BF.o;omega));have d0:=hB.cell 0;have d1:=hB.cell 1;have d2:=hB.cell 2;have d3:=hB.cell 3;have d4:=hB.cell 4;have d5:=hB.cell 5;have d6:=hB.cell 6;have d7:=hB.cell 7;have d8:=hB.cell 8;have d9:=hB.cell 9;have d10:=hB.cell 10;simp [rU] at d0 d1 d2 d3 d4 d5 d6 d7 d8 d9 d10;clear hB yL Dt uL kE Dl;go_wp2_with fail;exact bodyPost_ret (v:=.agg #[.int .i64 x.st.1,.int .i64 x.st.2,.int .i64 x.seq,.int .i64 x.kind,.int .i64 x.node.1,.int .i64 x.node.2,.bool x.dir,.int .i64 x.par.1,.int .i64 x.par.2,.string (bs x.nm),.string (bs x.mf)]) (by simp [results,results331,go_sem,d0,d1,d2,d3,d4,d5,d6,d7,d8,d9,d10]) rfl ⟨rfl,KK.o,OP.o⟩
theorem Mw (most:Nat) (tk:Value) (r:List UInt8) (q g:Nat) (w:World) (h:zL w q g (Pt.Cd.numL 0++r)):Calls prog 327 #[.pointer (some ⟨q,0,none⟩),.int .i64 (most:Nat),tk] w fun e w'=>e=.returned (.slice none 0 0)/\zL w' q g r/\w.grownBy w' (some g):=by
 have a0:=h.b.cell 0;have a1:=h.b.cell 1;simp at a0 a1;have HE:=dH (nO h.rd);have HN:=dH (kZ 0 (by decide) h.rd);have H:=dH h;clear h;have xN:decide ((most:Int) < 0)=false:=by simp
 have hm2:decide ((0:Int) > (most:Int))=false:=by simp
 go_enter func327,ntmps327;go_wp2_with fail;refine HE.o.mono ?_;rintro e w1 ⟨rfl,rfl⟩;go_wp2_with fail;refine HN.o.mono ?_;rintro e w1 ⟨rfl,hr,hg⟩;have h1:=H.o.call hr hg;have b0:=h1.b.cell 0;have b1:=h1.b.cell 1;simp at b0 b1;have yF:=dH (nO h1.rd);have sS:=dH hg;have H1:=dH h1;clear hr hg h1 a0 a1 HE HN;go_wp2_with fail;refine yF.o.mono ?_;rintro e w2 ⟨rfl,rfl⟩;go_wp2_with fail;refine wp_loop_rounds 1 ?_;rw [rounds_succ];go_wp2_with fail;go_ret;exact ⟨rfl,H1.o,sS.o⟩
theorem Mx (x:Int) (hx:nU x) (most:Nat) (hm:1<=most) (r:List UInt8) (q g:Nat) (w:World) (h:zL w q g (Pt.Cd.numL 1++(Pt.Cd.numL x++r))):Calls prog 327 #[.pointer (some ⟨q,0,none⟩),.int .i64 (most:Nat),.func (.func 215) #[.pointer (some ⟨g,0,none⟩)] #[]] w fun e w'=>∃G c,e=.returned (.slice (some ⟨G,0,none⟩) 1 c)/\dN w' w.heap.size 1 (.slice (some ⟨G,0,none⟩) 1 c) 1 [.int .i64 x]/\zL w' q g r/\w.grownBy w' (some g):=by
 have a0:=h.b.cell 0;have a1:=h.b.cell 1;simp at a0 a1;have xN:decide ((most:Int) < 1)=false:=by simp;omega
 have hm2:decide ((1:Int) > (most:Int))=false:=by simp;omega
 obtain ⟨i0,hi,hz0,hz1,hz2⟩:=info_parts SL;have HI:=dH hi;have j9:=dH hz0;have gH:=dH hz1;have iH:=dH hz2;clear hi hz0 hz1 hz2;have HE:=dH (nO h.rd);have HN:=dH (kZ 1 (by decide) h.rd);have H:=dH h;clear h;go_enter func327,ntmps327;go_wp2_with fail;refine HE.o.mono ?_;rintro e w1 ⟨rfl,rfl⟩;go_wp2_with fail;refine HN.o.mono ?_;rintro e w1 ⟨rfl,hr,hg⟩;have h1:=H.o.call hr hg;have b0:=h1.b.cell 0;have b1:=h1.b.cell 1;simp at b0 b1;have yF:=dH (nO h1.rd);have sS:=dH hg;have H1:=dH h1;clear hr hg h1 a0 a1 HE HN;go_wp2_with fail;refine yF.o.mono ?_;rintro e w2 ⟨rfl,rfl⟩;go_wp2_with fail;refine wp_loop_rounds 2 ?_;rw [rounds_succ];go_wp2_with fail;refine yF.o.mono ?_;rintro e w2 ⟨rfl,rfl⟩;go_wp2_with fail;refine (kZ x (by unfold nU at hx;omega) H1.o.rd).mono ?_;rintro e w3 ⟨rfl,hr,hg⟩;have pH:=dH (H1.o.call hr hg);have Bd:=dH (sS.o.trans hg);clear hr hg b0 b1 H1 yF;go_wp2_with (at_builtin;refine dU _ rfl (.tmp 58) (.tmp 61) 51 51 rfl 3 i0 (.int .i64 0) 1 underlying51 HI.o j9.o gH.o rfl (by decide) rfl _ rfl 1 (by decide) [.int .i64 x] (Src.one underlying51 (by simp [go_sem]) rfl) (by decide) (by rw [iH.o];decide) ?_)
 intro cap w4 hown hb4;have jZ:Below w3.heap.size w3 w4:=((aC w3.heap.size w3).alloc (aB _) _).trans (hb4.mono (by simp));obtain ⟨G,hG⟩:=dB (w3.heap.size+1);rw [<-hG] at hown;have Zi:=dH (dN.mono (B':=w.heap.size) hown (by have:=Bd.o.size;omega));have GC:=dH (pH.o.below jZ);have Hu:=dH (qW Bd.o jZ);have Zj:=dH hG;clear hown hb4 jZ hG pH Bd;rw [<-Zj.o];have d0:=GC.o.b.cell 0;have d1:=GC.o.b.cell 1;simp at d0 d1;go_wp2_with fail;rw [rounds_succ];go_wp2_with fail;go_ret;exact ⟨G,cap,rfl,Zi.o,GC.o,Hu.o⟩
theorem My (most:Nat) (tk:Value) (r:List UInt8) (q g:Nat) (w:World) (h:zL w q g (Pt.Cd.numL 0++r)):Calls prog 328 #[.pointer (some ⟨q,0,none⟩),.int .i64 (most:Nat),tk] w fun e w'=>e=.returned (.slice none 0 0)/\zL w' q g r/\w.grownBy w' (some g):=by
 have a0:=h.b.cell 0;have a1:=h.b.cell 1;simp at a0 a1;have HE:=dH (nO h.rd);have HN:=dH (kZ 0 (by decide) h.rd);have H:=dH h;clear h;have xN:decide ((most:Int) < 0)=false:=by simp
 have hm2:decide ((0:Int) > (most:Int))=false:=by simp
 go_enter func328,ntmps328;go_wp2_with fail;refine HE.o.mono ?_;rintro e w1 ⟨rfl,rfl⟩;go_wp2_with fail;refine HN.o.mono ?_;rintro e w1 ⟨rfl,hr,hg⟩;have h1:=H.o.call hr hg;have b0:=h1.b.cell 0;have b1:=h1.b.cell 1;simp at b0 b1;have yF:=dH (nO h1.rd);have sS:=dH hg;have H1:=dH h1;clear hr hg h1 a0 a1 HE HN;go_wp2_with fail;refine yF.o.mono ?_;rintro e w2 ⟨rfl,rfl⟩;go_wp2_with fail;refine wp_loop_rounds 1 ?_;rw [rounds_succ];go_wp2_with fail;go_ret;exact ⟨rfl,H1.o,sS.o⟩
theorem Mz (x:List UInt8) (hx:x.length<=1000) (most:Nat) (hm:1<=most) (r:List UInt8) (q g:Nat) (w:World) (h:zL w q g (Pt.Cd.numL 1++(Pt.Cd.textL x++r))):Calls prog 328 #[.pointer (some ⟨q,0,none⟩),.int .i64 (most:Nat),.func (.func 329) #[.pointer (some ⟨g,0,none⟩)] #[]] w fun e w'=>∃G c,e=.returned (.slice (some ⟨G,0,none⟩) 1 c)/\dN w' w.heap.size 1 (.slice (some ⟨G,0,none⟩) 1 c) 1 [.string (bs x)]/\zL w' q g r/\w.grownBy w' (some g):=by
 have a0:=h.b.cell 0;have a1:=h.b.cell 1;simp at a0 a1;have xN:decide ((most:Int) < 1)=false:=by simp;omega
 have hm2:decide ((1:Int) > (most:Int))=false:=by simp;omega
 obtain ⟨i0,hi,hz0,hz1,hz2⟩:=info_parts Ik.info9s;have HI:=dH hi;have j9:=dH hz0;have gH:=dH hz1;have iH:=dH hz2;clear hi hz0 hz1 hz2;have HE:=dH (nO h.rd);have HN:=dH (kZ 1 (by decide) h.rd);have H:=dH h;clear h;go_enter func328,ntmps328;go_wp2_with fail;refine HE.o.mono ?_;rintro e w1 ⟨rfl,rfl⟩;go_wp2_with fail;refine HN.o.mono ?_;rintro e w1 ⟨rfl,hr,hg⟩;have h1:=H.o.call hr hg;have b0:=h1.b.cell 0;have b1:=h1.b.cell 1;simp at b0 b1;have yF:=dH (nO h1.rd);have sS:=dH hg;have H1:=dH h1;clear hr hg h1 a0 a1 HE HN;go_wp2_with fail;refine yF.o.mono ?_;rintro e w2 ⟨rfl,rfl⟩;go_wp2_with fail;refine wp_loop_rounds 2 ?_;rw [rounds_succ];go_wp2_with fail;refine yF.o.mono ?_;rintro e w2 ⟨rfl,rfl⟩;go_wp2_with fail;refine (AG x H1.o.rd (by omega)).mono ?_;rintro e w3 ⟨rfl,hr,hg⟩;have pH:=dH (H1.o.call hr hg);have Bd:=dH (sS.o.trans hg);clear hr hg b0 b1 H1 yF;go_wp2_with (at_builtin;refine dU _ rfl (.tmp 58) (.tmp 61) 99 99 rfl 9 i0 (.string ⟨#[]⟩) 1 underlying99 HI.o j9.o gH.o rfl (by decide) rfl _ rfl 1 (by decide) [.string (bs x)] (Src.one underlying99 (by simp [go_sem]) rfl) (by decide) (by rw [iH.o];decide) ?_)
 intro cap w4 hown hb4;have jZ:Below w3.heap.size w3 w4:=((aC w3.heap.size w3).alloc (aB _) _).trans (hb4.mono (by simp));obtain ⟨G,hG⟩:=dB (w3.heap.size+1);rw [<-hG] at hown;have Zi:=dH (dN.mono (B':=w.heap.size) hown (by have:=Bd.o.size;omega));have GC:=dH (pH.o.below jZ);have Hu:=dH (qW Bd.o jZ);have Zj:=dH hG;clear hown hb4 jZ hG pH Bd;rw [<-Zj.o];have d0:=GC.o.b.cell 0;have d1:=GC.o.b.cell 1;simp at d0 d1;go_wp2_with fail;rw [rounds_succ];go_wp2_with fail;go_ret;exact ⟨G,cap,rfl,Zi.o,GC.o,Hu.o⟩
theorem N0 (most:Nat) (tk:Value) (r:List UInt8) (q g:Nat) (w:World) (h:zL w q g (Pt.Cd.numL 0++r)):Calls prog 330 #[.pointer (some ⟨q,0,none⟩),.int .i64 (most:Nat),tk] w fun e w'=>e=.returned (.slice none 0 0)/\zL w' q g r/\w.grownBy w' (some g):=by
 have a0:=h.b.cell 0;have a1:=h.b.cell 1;simp at a0 a1;have HE:=dH (nO h.rd);have HN:=dH (kZ 0 (by decide) h.rd);have H:=dH h;clear h;have xN:decide ((most:Int) < 0)=false:=by simp
 have hm2:decide ((0:Int) > (most:Int))=false:=by simp
 go_enter func330,ntmps330;go_wp2_with fail;refine HE.o.mono ?_;rintro e w1 ⟨rfl,rfl⟩;go_wp2_with fail;refine HN.o.mono ?_;rintro e w1 ⟨rfl,hr,hg⟩;have h1:=H.o.call hr hg;have b0:=h1.b.cell 0;have b1:=h1.b.cell 1;simp at b0 b1;have yF:=dH (nO h1.rd);have sS:=dH hg;have H1:=dH h1;clear hr hg h1 a0 a1 HE HN;go_wp2_with fail;refine yF.o.mono ?_;rintro e w2 ⟨rfl,rfl⟩;go_wp2_with fail;refine wp_loop_rounds 1 ?_;rw [rounds_succ];go_wp2_with fail;go_ret;exact ⟨rfl,H1.o,sS.o⟩
theorem N4 (x:dV) (hx:D7 x) (hrc:r9 x=0) (most:Nat) (hm:1<=most) (r:List UInt8) (p b q g:Nat) (w:World) (h:xL w p b q g (Pt.Cd.numL 1++(Pt.Cd.textL (gG x)++r))):Calls prog 330 #[.pointer (some ⟨q,0,none⟩),.int .i64 (most:Nat),.func (.func 331) #[] #[.pointer (some ⟨p,0,none⟩),.pointer (some ⟨b,0,none⟩)]] w fun e w'=>∃G c,e=.returned (.slice (some ⟨G,0,none⟩) 1 c)/\dN w' w.heap.size 11 (.slice (some ⟨G,0,none⟩) 1 c) 1 (BX [x])/\xL w' p b q g r/\dY (fun i=>i=g\/i=b) w w':=by
 have HT:=dH (fun w h=>aaQ x hx hrc r p b q g w h);clear hx hrc;have HO:=dH h;have h:=h.tk;have a0:=h.b.cell 0;have a1:=h.b.cell 1;simp at a0 a1;have xN:decide ((most:Int) < 1)=false:=by simp;omega
 have hm2:decide ((1:Int) > (most:Int))=false:=by simp;omega
 obtain ⟨i0,hi,hz0,hz1,hz2⟩:=info_parts Aj;have HI:=dH hi;have j9:=dH hz0;have gH:=dH hz1;have iH:=dH hz2;clear hi hz0 hz1 hz2;have HE:=dH (nO h.rd);have HN:=dH (kZ 1 (by decide) h.rd);have H:=dH h;clear h;go_enter func330,ntmps330;go_wp2_with fail;refine HE.o.mono ?_;rintro e w1 ⟨rfl,rfl⟩;go_wp2_with fail;refine HN.o.mono ?_;rintro e w1 ⟨rfl,hr,hg⟩;have h1:=H.o.call hr hg;have b0:=h1.b.cell 0;have b1:=h1.b.cell 1;simp at b0 b1;have yF:=dH (nO h1.rd);have sS:=dH hg;have H1:=dH h1;have Sn:=dH (HO.o.call hr hg);have EN:dG (dY (fun i=>i=g\/i=b) _ w1):=dH (ep hg (fun i hi=>by cases hi;exact .inl rfl));clear hr hg h1 a0 a1 HE HN;go_wp2_with fail;refine yF.o.mono ?_;rintro e w2 ⟨rfl,rfl⟩;go_wp2_with fail;refine wp_loop_rounds 2 ?_;rw [rounds_succ];go_wp2_with fail;refine yF.o.mono ?_;rintro e w2 ⟨rfl,rfl⟩;go_wp2_with fail;refine (HT.o _ Sn.o).mono ?_;rintro e w3 ⟨rfl,hto,hk⟩;have pE:=dH hto;have lJ:=dH (eB EN.o hk (fun _ _ h=>h));clear hto hk b0 b1 H1 yF Sn EN;have eN:=dD w3 (.cells #[.int .i64 x.st.1,.int .i64 x.st.2,.int .i64 x.seq,.int .i64 x.kind,.int .i64 x.node.1,.int .i64 x.node.2,.bool x.dir,.int .i64 x.par.1,.int .i64 x.par.2,.string (bs x.nm),.string (bs x.mf)] 32);have HS:dG (Blk (w3.alloc (.cells #[.int .i64 x.st.1,.int .i64 x.st.2,.int .i64 x.seq,.int .i64 x.kind,.int .i64 x.node.1,.int .i64 x.node.2,.bool x.dir,.int .i64 x.par.1,.int .i64 x.par.2,.string (bs x.nm),.string (bs x.mf)] 32)) w3.heap.size 32 (oc x).toArray):=dH (Blk.new w3 32 (oc x).toArray);have OV:=dH eN;clear eN;unfold ov;go_wp2_with (at_builtin;refine dU _ rfl (.tmp 58) (.tmp 61) 22 22 rfl 32 i0 (.agg #[.int .i64 0,.int .i64 0,.int .i64 0,.int .i64 0,.int .i64 0,.int .i64 0,.bool false,.int .i64 0,.int .i64 0,.string ⟨#[]⟩,.string ⟨#[]⟩]) 11 underlying22 HI.o j9.o gH.o rfl (by decide) rfl _ rfl 1 (by decide) (BX [x]) (Src.op x HS.o) (by decide) (by rw [iH.o];decide) ?_)
 intro cap w4 hown hb4;have jZ:Below w3.heap.size w3 w4:=OV.o.trans (hb4.mono (by simp));obtain ⟨G,hG⟩:=dB (w3.heap.size+1);rw [<-hG] at hown;have Zi:=dH (dN.mono (B':=w.heap.size) hown (by have:=lJ.o.size;omega));have GC:=dH (pE.o.below jZ);have nT:=dH (gI lJ.o jZ);have Zj:=dH hG;clear hown hb4 jZ hG pE lJ HS OV;rw [<-Zj.o];have d0:=GC.o.tk.b.cell 0;have d1:=GC.o.tk.b.cell 1;simp at d0 d1;go_wp2_with fail;rw [rounds_succ];go_wp2_with fail;go_ret;exact ⟨G,cap,rfl,Zi.o,GC.o,nT.o⟩
end
end Go.Proofs.YtgdaahffmcfhpaaGreatDoor
