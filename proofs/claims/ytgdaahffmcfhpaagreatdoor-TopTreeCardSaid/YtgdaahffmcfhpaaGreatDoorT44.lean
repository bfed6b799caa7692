/- Lemmas on the way: Bd Be Kp Ca Cb Cc Cd. -/
import Derived.Test.YtgdaahffmcfhpaaGreatDoorT39
import Derived.Test.YtgdaahffmcfhpaaGreatDoorT43
import Derived.Test.YtgdaahffmcfhpaaGreatDoorT00
set_option maxRecDepth 100000
set_option maxHeartbeats 8000000
namespace Go.Proofs.YtgdaahffmcfhpaaGreatDoor
open Tryz
section
open Go.RowKit
attribute [local go_sem] dO dL dQ dM
theorem YE {w:World} {A:Option Addr} {n c:Nat} {x:It} (h:AM w A n c [x]):∃b off,A=some ⟨b,off,none⟩/\n=1/\b < w.heap.size/\x.path.length<=9223372036854775807/\x.mf.length<=9223372036854775807/\∀j u,(ic x)[j]? =some u->w.cell? ⟨b,off+j,none⟩=some u:=by
 obtain ⟨b,off,cs,e,hlt,hl,⟨rfl,h1,h2⟩,hc⟩:=h.4 0 (by simp);have hn:=h.1;simp at hn;exact ⟨b,off,e,hn.symm,hlt,h1,h2,fun j u hu=>by have:=hc j u hu;simpa using this⟩
theorem UD:(prog.info? 4).map (fun i=>(i.zero,i.size,i.bytes))=some (some (.bool false),1,1):=by kernel_rfl
theorem UE (s:List UInt8) (hs:s.length<=100000) (w:World):Calls prog 261 #[.string (bs s)] w (dJ w (.string (bs s))):=by
 have hl:(bs s).size<=281474976710656:=by rw [dO];omega
 go_enter func261,ntmps261;go_wp2_with fail;refine (stringslite_Clone (bs s) _ hl).mono ?_;rintro e w1 ⟨rfl,hb⟩;have HB:=dH hb;clear hb;go_wp2_with fail;go_ret;exact ⟨rfl,HB.o⟩
theorem NH (A:Option Addr) (c:Nat) (w:World):Calls prog 263 #[.slice A 1 c] w fun e w'=>e=.returned (.slice A 1 c)/\w=w':=by
 go_enter func263,ntmps263;go_wp2_with fail;go_ret;exact ⟨rfl,rfl⟩
theorem YF (A:Option Addr) (c:Nat) (v:Value) (w:World):Calls prog 64 #[.slice A 0 c,v] w (dJ w (.slice none 0 0)):=by
 go_enter func64,ntmps64;go_wp2_with fail;refine wp_loop_rounds 1 ?_;rw [rounds_succ];go_wp2_with fail;go_ret;exact ⟨rfl,aC _ _⟩
theorem UF (A:Option Addr) (c:Nat) (v:Value) (w:World):Calls prog 190 #[.slice A 0 c,v] w (dJ w (.slice none 0 0)):=by
 go_enter func190,ntmps190;go_wp2_with fail;refine (YF _ _ _ _).mono ?_;rintro e w1 ⟨rfl,hb⟩;have HB:=dH hb;clear hb;go_wp2_with fail;refine wp_loop_rounds 1 ?_;rw [rounds_succ];go_wp2_with fail;refine (MX _ _ _).mono ?_;rintro e w2 ⟨rfl,rfl⟩;go_wp2_with fail;refine (slices_Compact_string_empty none 0 _).mono ?_;rintro e w2 ⟨rfl,rfl⟩;go_wp2_with fail;go_ret;exact ⟨rfl,HB.o⟩
structure UG (w W:World) (q:Nat) (x:It):Prop where
 b:Below w.heap.size w W
 q_:Blk W q 44 (ic x).toArray
theorem UG.later {w W W':World} {q:Nat} {x:It} (h:UG w W q x) (hb:Below W.heap.size W W'):UG w W' q x:=⟨h.b.trans (hb.mono h.b.size),h.q_.below hb h.q_.lt⟩
theorem UG.cells {w W:World} {q:Nat} {x:It} (h:UG w W q x):W.cell? ⟨q,0,none⟩=some (.string (bs x.path))/\W.cell? ⟨q,1,none⟩=some (.int .i64 x.id.1)/\W.cell? ⟨q,2,none⟩=some (.int .i64 x.id.2)/\W.cell? ⟨q,3,none⟩=some (.bool x.dir)/\W.cell? ⟨q,4,none⟩=some (.bool false)/\W.cell? ⟨q,5,none⟩=some (.string (bs x.mf)):=
 ⟨h.q_.cell 0,h.q_.cell 1,h.q_.cell 2,h.q_.cell 3,h.q_.cell 4,h.q_.cell 5⟩
theorem YG (x:It) (A:Option Addr) (n c:Nat) (w:World) (hx:AM w A n c [x]) (b off cr:Nat) (hlt:b < w.heap.size) (h0:w.cell? ⟨b,off,none⟩=some (.int .i64 1)) (h1:w.cell? ⟨b,off+1,none⟩=some (.string (bs [46]))):
  Calls prog 64 #[.slice A n c,.slice (some ⟨b,off,none⟩) 1 cr] w fun e w'=>∃g cap,e=.returned (.slice (some ⟨g,0,none⟩) 1 cap)/\dN w' w.heap.size 1 (.slice (some ⟨g,0,none⟩) 1 cap) 1 [.bool true]/\Below w.heap.size w w':=by
 obtain ⟨bi,oi,rfl,rfl,hbi,hp,hm,hc⟩:=YE hx;obtain ⟨i0,hi,hz0,hz1,hz2⟩:=info_parts UD;have HI:=dH hi;have j9:=dH hz0;have gH:=dH hz1;have iH:=dH hz2;clear hi hz0 hz1 hz2;have e0:=hc 0 _ rfl;have e1:=hc 1 _ rfl;have e2:=hc 2 _ rfl;have e3:=hc 3 _ rfl;have e4:=hc 4 _ rfl;have e5:=hc 5 _ rfl;simp only [bQ] at e0;have hq:=Blk.new w 44 (ic x).toArray;have dR:=dD w (.cells (ic x).toArray 44);obtain ⟨w1,hw1⟩:=dB (w.alloc (.cells (ic x).toArray 44));obtain ⟨q,lN⟩:=dB w.heap.size;rw [<-hw1] at hq dR;rw [<-lN] at hq;have H1:dG (UG w w1 q x):=dH ⟨dR,hq⟩;have HMt:=dH (FX x.path x.dir b off cr w1 (by have:=dR.size;omega) ((aI (a:=⟨b,off,none⟩) (dR.block b hlt)).trans h0) ((aI (a:=⟨b,off+1,none⟩) (dR.block b hlt)).trans h1));have HW:=dH (show w1=w.alloc (.cells #[.string (bs x.path),.int .i64 x.id.1,.int .i64 x.id.2,.bool x.dir,.bool false,.string (bs x.mf)] 44) from hw1);have HQ:=dH lN;clear hq dR hw1 lN h0 h1 hx hc;go_enter func64,ntmps64;go_wp2_with fail;refine wp_loop_rounds 2 ?_;rw [rounds_succ];go_upto_region 5 with (fail);rw [<-HQ.o,<-HW.o];clear e0 e1 e2 e3 e4 e5;obtain ⟨e0,e1,e2,e3,e4,e5⟩:=H1.o.cells;go_wp2_with fail;refine HMt.o.mono ?_;rintro e w2 ⟨rfl,hb⟩;have H2:=dH (H1.o.later hb);clear hb e0 e1 e2 e3 e4 e5 H1 HMt;go_wp2_with (at_builtin;refine dU _ rfl (.tmp 14) (.tmp 21) 120 120 rfl 4 i0 (.bool false) 1 underlying120 HI.o j9.o gH.o rfl (by decide) rfl _ rfl 1 (by decide) [.bool true] (Src.one underlying120 (by simp [go_sem]) rfl) (by decide) (by rw [iH.o];decide) ?_)
 intro cap w3 hown di;have uN:Below w2.heap.size w2 w3:=((aC w2.heap.size w2).alloc (aB _) _).trans (di.mono (by simp));obtain ⟨G,hG⟩:=dB (w2.heap.size+1);rw [<-hG] at hown;have HO:=dH (dN.mono (B':=w.heap.size) hown (by have:=H2.o.b.size;omega));have dw:=dH (H2.o.b.trans (uN.mono H2.o.b.size));have HG:=dH hG;clear hown di uN hG H2;rw [<-HG.o];go_wp2_with fail;rw [rounds_succ];go_wp2_with fail;go_ret;exact ⟨G,cap,rfl,HO.o,dw.o⟩
theorem NI (x:It) (hd:x.dir=false) (xN:x.mf≠[]) (hm2:x.mf.length<=100000) (A:Option Addr) (n c:Nat) (w:World) (hx:AM w A n c [x]) (b off cr:Nat) (hlt:b < w.heap.size) (h0:w.cell? ⟨b,off,none⟩=some (.int .i64 1)) (h1:w.cell? ⟨b,off+1,none⟩=some (.string (bs [46]))):
  Calls prog 190 #[.slice A n c,.slice (some ⟨b,off,none⟩) 1 cr] w fun e w'=>∃g cap,e=.returned (.slice (some ⟨g,0,none⟩) 1 cap)/\dN w' w.heap.size 1 (.slice (some ⟨g,0,none⟩) 1 cap) 1 [.string (bs x.mf)]/\Below w.heap.size w w':=by
 have HH:=dH (YG x A n c w hx b off cr hlt h0 h1);have hme:(x.mf ==[])=false:=by rw [beq_eq_false_iff_ne];exact xN
 obtain ⟨bi,oi,rfl,rfl,hbi,-,-,hc⟩:=YE hx;obtain ⟨j0,hj,hy0,hy1,hy2⟩:=info_parts Ik.info9s;have HJ:=dH hj;have uo:=dH hy0;have zc:=dH hy1;have ze:=dH hy2;have HC:=dH hc;have BA:=dH (fun w=>UE x.mf hm2 w);clear hj hy0 hy1 hy2 hc hx h0 h1 xN hm2;go_enter func190,ntmps190;go_wp2_with fail;refine HH.o.mono ?_;rintro e w1 ⟨g,cap,rfl,ho,hb⟩;obtain ⟨k0,k1,k2,k3,k4⟩:=DB ho;have hc:∀j u,(ic x)[j]? =some u->w1.cell? ⟨bi,oi+j,none⟩=some u:=fun j u hu=>(aI (a:=⟨bi,oi+j,none⟩) (hb.block bi hbi)).trans (HC.o j u hu)
 have e0:=hc 0 _ rfl;have e1:=hc 1 _ rfl;have e2:=hc 2 _ rfl;have e3:=hc 3 _ rfl;have e4:=hc 4 _ rfl;have e5:=hc 5 _ rfl;simp only [bQ] at e0;have hq:=Blk.new w1 44 (ic x).toArray;have dS:=dD w1 (.cells (ic x).toArray 44);obtain ⟨w2,eV⟩:=dB (w1.alloc (.cells (ic x).toArray 44));obtain ⟨q,lN⟩:=dB w1.heap.size;rw [<-eV] at hq dS;rw [<-lN] at hq;have H2:dG (UG w w2 q x):=dH ⟨hb.trans (dS.mono hb.size),hq⟩;have HK:=dH ((aI (a:=⟨g,0,none⟩) (dS.block g k4)).trans k0);have HW:=dH (show w2=w1.alloc (.cells #[.string (bs x.path),.int .i64 x.id.1,.int .i64 x.id.2,.bool x.dir,.bool false,.string (bs x.mf)] 44) from eV);have HQ:=dH lN;have HD:=dH hd;clear hq dS eV lN hc ho hb k0 k1 k2 k3 HC hd;go_wp2_with fail;refine wp_loop_rounds 2 ?_;rw [rounds_succ];go_upto_region 6 with (fail);rw [<-HQ.o,<-HW.o];clear e0 e1 e2 e3 e4 e5;obtain ⟨e0,e1,e2,e3,e4,e5⟩:=H2.o.cells;rw [HD.o] at e3;have k0:=HK.o;go_wp2_with fail;refine (BA.o _).mono ?_;rintro e w3 ⟨rfl,hb⟩;have dw:=dH (H2.o.b.trans (hb.mono H2.o.b.size));clear hb e0 e1 e2 e3 e4 e5 k0 H2 HK;go_wp2_with (at_builtin;refine dU _ rfl (.tmp 33) (.tmp 37) 99 99 rfl 9 j0 (.string ⟨#[]⟩) 1 underlying99 HJ.o uo.o zc.o rfl (by decide) rfl _ rfl 1 (by decide) [.string (bs x.mf)] (Src.one underlying99 (by simp [go_sem]) rfl) (by decide) (by rw [ze.o];decide) ?_)
 intro WJ w4 hown hb4;have jZ:Below w3.heap.size w3 w4:=((aC w3.heap.size w3).alloc (aB _) _).trans (hb4.mono (by simp));obtain ⟨G,hG⟩:=dB (w3.heap.size+1);rw [<-hG] at hown;have HO:=dH (dN.mono (B':=w.heap.size) hown (by have:=dw.o.size;omega));have fD:=dF dw jZ;have HG:=dH hG;clear hown hb4 jZ hG dw;rw [<-HG.o];go_wp2_with fail;rw [rounds_succ];go_wp2_with fail;refine (Tv _ _ _).mono ?_;rintro e w5 ⟨rfl,rfl⟩;go_wp2_with fail;refine (NH _ _ _).mono ?_;rintro e w5 ⟨rfl,rfl⟩;go_wp2_with fail;go_ret;exact ⟨G,WJ,rfl,HO.o,fD.o⟩
end
namespace Pt
open Go.RowKit Fm
attribute [local go_sem] dO dL dQ dM
theorem missing1 {d pb kb q u:Nat} {fs:Files} {w:World} (h:StI w d pb kb q u fs) (m:List UInt8) (hm:m.length<=1000000) (k:List UInt8) (N:Int) (hk:keysL m=([k],N,0)) (hno:Fm.get fs k=none):
  Calls prog 138 #[.pointer (some ⟨d,0,none⟩),.string (bs m)] w fun e w'=>∃g c,e=.returned (.tuple #[.slice (some ⟨g,0,none⟩) 1 c,.int .i64 0])/\dN w' w.heap.size 1 (.slice (some ⟨g,0,none⟩) 1 c) 1 [.string (bs k)]/\Below w.heap.size w w':=by
 have hK:=qi m hm w;unfold iq at hK;rw [hk] at hK;have HK:=dH hK;have H:=dH h;obtain ⟨j0,hj,hy0,hy1,hy2⟩:=info_parts Ik.info9s;have HJ:=dH hj;have uo:=dH hy0;have zc:=dH hy1;have ze:=dH hy2;have HNO:=dH hno;clear h hj hy0 hy1 hy2 hno hK hk;go_enter func138,ntmps138;go_wp2_with fail;refine HK.o.mono ?_;rintro e w1 ⟨v,rfl,ho,dR⟩;obtain ⟨g0,c0,rfl,KX,-,hc0,-,-⟩:=iO ho rfl;have a0:=hc0 0 _ rfl;have hs1:=H.o.later dR;have q2:w1.cell? ⟨d,2,none⟩=some (.map (some pb)):=hs1.blk.cell 2;have hlk:=hs1.fs.look2 underlying191 underlying9 tF k;rw [HNO.o] at hlk;simp only [Option.isSome_none,Option.getD_none] at hlk;have eH:=dH dR;clear hs1 dR ho hc0;go_wp2_with fail;refine wp_loop_rounds 2 ?_;rw [rounds_succ];go_wp2_with fail;refine (slices_Contains_string_empty none 0 _ _).mono ?_;rintro e w2 ⟨rfl,rfl⟩;go_wp2_with (at_builtin;refine dU _ rfl (.tmp 48) (.tmp 50) 99 99 rfl 9 j0 (.string ⟨#[]⟩) 1 underlying99 HJ.o uo.o zc.o rfl (by decide) rfl _ rfl 1 (by decide) [.string (bs k)] (Src.one underlying99 (by simp [go_sem]) rfl) (by decide) (by rw [ze.o];decide) ?_)
 intro cap w3 hown di;have uN:=((aC _ _).alloc (aB _) _).trans (di.mono (by simp));obtain ⟨G,hG⟩:=dB (w2.heap.size+1);rw [<-hG] at hown;have HO:=dH (dN.mono (B':=w.heap.size) hown (by have:=eH.o.size;omega));have dw:=dF eH uN;have HG:=dH hG;clear hown di uN hG eH a0 q2 hlk;rw [<-HG.o];go_wp2_with fail;rw [rounds_succ];go_wp2_with fail;go_ret2;exact ⟨G,cap,rfl,HO.o,dw.o⟩
theorem file1 {d pb kb q u:Nat} {fs:Files} {w:World} (h:StI w d pb kb q u fs) (m:List UInt8) (hm:m.length<=1000000) (k x:List UInt8) (N:Int) (hk:keysL m=([k],N,0)) (O3:Fm.get fs k=some x) (hx:x.length<=256) (hjo:joinJ ([k],N,0) [x]=(x,0)):
  Calls prog 85 #[.pointer (some ⟨d,0,none⟩),.string (bs m)] w (dJ w (.tuple #[.string (bs x),.int .i64 0])):=by
 have hK:=fun w=>qi m hm w
 unfold iq at hK;rw [hk] at hK;have HK:=dH hK;have HM:=dH (missing_any h m hm (by rw [hk]) (by rw [hk];intro k' hk';rw [aU.1 hk',O3];rfl));have H:=dH h;obtain ⟨j0,hj,hy0,hy1,hy2⟩:=info_parts Ik.info9s;have HJ:=dH hj;have uo:=dH hy0;have zc:=dH hy1;have ze:=dH hy2;have abU:=dH O3;have HJO:dG (∀A n c w',Strs w' A n c [x]->Calls prog 140 #[.string (bs m),.slice A n c] w' fun e w2=>e=.returned (.tuple #[.string (bs x),.int .i64 0])/\Below w'.heap.size w' w2):=dH (fun A n c w' hs=>by
  have:=Lx m hm A n c [x] w' hs (fun s hs=>by rw [aU.1 hs];omega);rw [hk] at this;unfold mF at this;rw [hjo] at this;exact this)
 clear h hj hy0 hy1 hy2 O3 hjo hK hk;go_enter func85,ntmps85;go_wp2_with fail;refine HM.o.mono ?_;rintro e w1 ⟨rfl,dR⟩;have eH:=dH dR;clear dR HM;go_wp2_with fail;refine (HK.o _).mono ?_;rintro e w2 ⟨v,rfl,ho,dS⟩;obtain ⟨g0,c0,rfl,KX,-,hc0,-,-⟩:=iO ho rfl;have a0:=hc0 0 _ rfl;have KB:=eH.o.trans (dS.mono eH.o.size);have hs1:=H.o.later KB;have q2:w2.cell? ⟨d,2,none⟩=some (.map (some pb)):=hs1.blk.cell 2;have hlk:=hs1.fs.look underlying191 underlying9 tF k;rw [abU.o] at hlk;simp only [Option.getD_some] at hlk;have eG:=dH KB;clear hs1 dS KB ho hc0 eH;go_wp2_with fail;refine wp_loop_rounds 2 ?_;rw [rounds_succ];go_wp2_with (at_builtin;refine dU _ rfl (.tmp 40) (.tmp 47) 99 99 rfl 9 j0 (.string ⟨#[]⟩) 1 underlying99 HJ.o uo.o zc.o rfl (by decide) rfl _ rfl 1 (by decide) [.string (bs x)] (Src.one underlying99 (by simp [go_sem]) rfl) (by decide) (by rw [ze.o];decide) ?_)
 intro cap w3 hown di;have uN:Below w2.heap.size w2 w3:=((aC _ _).alloc (aB _) _).trans (di.mono (by simp));obtain ⟨G,hG⟩:=dB (w2.heap.size+1);rw [<-hG] at hown;have hst:Strs w3 (some ⟨G,0,none⟩) 1 cap [x]:=fZ.strs' rfl hown (fun y hy=>by rw [aU.1 hy];omega);have HC:=dH (HJO.o _ _ _ _ hst);have dw:=dF eG uN;have HG:=dH hG;clear hown di uN hG eG a0 q2 hlk hst HJO;rw [<-HG.o];go_wp2_with fail;rw [rounds_succ];go_wp2_with fail;refine HC.o.mono ?_;rintro e w4 ⟨rfl,hb4⟩;have fD:=dF dw hb4;clear hb4;go_wp2_with fail;go_ret2;exact ⟨rfl,fD.o⟩
end Pt
section
open Go.RowKit
structure Wp (w:World) (p m:Nat) (v:Value) (r:Int) (L:List dV):Prop where
 mov:Tn w 0 p m v r L
 short:sG L
def MS (p m:Nat) (v:Value) (i:Nat):Prop:=i=p\/i=m\/v.ownBlock=some i
theorem Wp.kp {S:BS} {w w':World} {p m:Nat} {v:Value} {r:Int} {L:List dV} (h:Wp w p m v r L) (k:dY S w w') (hn:∀i,MS p m v i->¬ S i):Wp w' p m v r L:=
 ⟨⟨⟨⟨h.mov.s3.stt.blk.kp k (hn p (.inl rfl)),h.mov.s3.stt.map.heap (k.block m h.mov.s3.stt.map.lt (hn m (.inr (.inl rfl))))⟩,dN.kp h.mov.s3.log k (fun g hg=>hn g (.inr (.inr hg))),h.mov.s3.nep,h.mov.s3.nem⟩,h.mov.sorted,h.mov.len,h.mov.p_ge,h.mov.m_ge⟩,h.short⟩
theorem Wp.bnd {w:World} {p m:Nat} {v:Value} {r:Int} {L:List dV} (h:Wp w p m v r L):P6 (MS p m v) w:=fun i hi=>by
 rcases hi with rfl|rfl|hi
 ·exact h.mov.s3.stt.blk.lt
 ·exact h.mov.s3.stt.map.lt
 ·exact (dN.ge h.mov.s3.log i hi).2
def Fg (w:World) (F:BS) (p:Nat) (L:List dV):Prop:=∃m v r,Wp w p m v r L/\F=MS p m v
theorem Fg.kp {S F:BS} {w w':World} {p:Nat} {L:List dV} (h:Fg w F p L) (k:dY S w w') (hn:jV F S):Fg w' F p L:=by
 obtain ⟨m,v,r,hi,rfl⟩:=h;exact ⟨m,v,r,hi.kp k hn,rfl⟩
theorem Fg.bnd {F:BS} {w:World} {p:Nat} {L:List dV} (h:Fg w F p L):P6 F w:=by
 obtain ⟨m,v,r,hi,rfl⟩:=h;exact hi.bnd
theorem UH (w:World):Calls prog 5 #[] w fun e w'=>∃F p,e=.returned (.pointer (some ⟨p,0,none⟩))/\Fg w' F p []/\(∀i,F i->w.heap.size<=i)/\Below w.heap.size w w':=by
 refine (ME w).mono ?_;rintro e w' ⟨rfl,hs,hb,hz⟩;refine ⟨_,_,rfl,⟨w.heap.size,.slice none 0 0,0,⟨⟨⟨hs,dN.nil_ _ _ _,?_,?_⟩,List.Pairwise.nil,by simp,aT _,aT _⟩,fun x hx=>by cases hx⟩,rfl⟩,fun i hi=>?_,hb⟩
 ·intro h;cases h
 ·intro h;cases h
 ·rcases hi with rfl|rfl|hi
  ·omega
  ·exact aB _
  ·cases hi
theorem zS (x:dV) (hx:P7 x) (p:Nat) (L:List dV) (F:BS) (w:World) (h:Fg w F p L):
  Calls prog 9 #[.pointer (some ⟨p,0,none⟩),ov x] w fun e w'=>∃F',e=.returned (.int .i64 (iU L x))/\Fg w' F' p (k9 L x)/\gT F F' w w':=by
 obtain ⟨m,v,r,hi,rfl⟩:=h;refine (zI x 0 p m v r L w hi.mov (aT _)).mono ?_;rintro e w' ⟨v',r',rfl,hm,hk,hg,h0,h1⟩;refine ⟨_,rfl,⟨m,v',r',⟨hm,zN hi.short hx⟩,rfl⟩,⟨hk.os,hk.tape,hk.output,hk.size,fun i hi hn=>hk.block i hi (fun e=>hn (.inl e)) (fun e=>hn (.inr (.inl e))) (fun e=>hn (.inr (.inr e.symm)))⟩,fun i hi=>?_⟩;rcases hi with hi|hi|hi
 ·exact .inl (.inl hi)
 ·exact .inl (.inr (.inl hi))
 ·rcases hg i hi with h2|h2
  ·exact .inl (.inr (.inr h2))
  ·exact .inr h2
theorem DT {p:Nat} {L:List dV} {F:BS} {w:World} (h:Fg w F p L):Calls prog 10 #[.pointer (some ⟨p,0,none⟩)] w (lI w (fN L)):=by
 obtain ⟨m,v,r,hi,rfl⟩:=h;have hl:=hi.mov.len;have hf:=oe L;refine (DL p m v r (iF L) w hi.mov.s3.stt (by omega)).mono ?_;rintro e w' ⟨v2,s,rfl,hp,hs,ho,hb⟩;obtain rfl:=tP hp hs;exact lI.own ho (tQ hi.short) hb
def mX:List UInt8:=Pt.manL [120]
def kX:List UInt8:=Pt.keyL [120]
def eZ:dV:=⟨(1,0),1,1,(1,0),false,(0,0),[97],mX⟩
def P8:Nd:=⟨(1,0),false,(0,0),[97],mX⟩
def He:It:=⟨[97],(1,0),false,mX⟩
theorem wQ:kX.length=32:=Pt.keyL_len _
theorem UI:Pt.cutL [120]=[[120]]:=by decide
theorem Hf:Pt.keysL mX=([kX],1,0):=by
 have:=Pt.man_keys (d:=[120]) (by simp) (by simp);rw [UI] at this;exact this
theorem YH:mX=Pt.Cd.numL 1++kX:=by
 show Pt.manL [120]=_;unfold Pt.manL;rw [UI];simp [kX]
theorem lX:33<=mX.length/\mX.length<=41:=by
 rw [YH,aO,wQ];have:=Pt.Cd.numL_len 1;omega
theorem SO:mX≠[]:=fun h=>by have h1:=lX.1;rw [h] at h1;exact absurd h1 (by decide)
theorem YI:Pt.joinJ ([kX],1,0) [[120]]=([120],0):=by
 have hlen:([[120]]:List (List UInt8)).length=[kX].length:=by simp only [aQ,ah]
 have:=Pt.joinJ_ok (n:=1) (l:=[[120]]) (ks:=[kX]) hlen ?_
 ·exact this
 intro i hi hi' hlt;obtain rfl:i=0:=by simp at hi;omega
 refine ⟨by simp only [aJ,aQ,ah];omega,?_⟩;simp only [aJ];unfold kX
 with_reducible rfl
theorem YJ:D7 eZ:=⟨⟨by unfold nU;decide,by unfold nU;decide⟩,by unfold nU;decide,by unfold nU;decide,⟨by unfold nU;decide,by unfold nU;decide⟩,⟨by unfold nU;decide,by unfold nU;decide⟩,by decide,by have:=lX;show mX.length<=1000;omega⟩
theorem DU:P7 eZ:=⟨by decide,by have:=lX;show mX.length<=_;omega⟩
theorem YK:k9 [] eZ=[eZ]:=by
 have h:iU [] eZ=0:=by unfold iU;rfl
 unfold k9;rw [if_pos h];rfl
theorem SP:fN [eZ]=[P8]:=by unfold eZ P8;generalize mX=m;rfl
theorem NJ:rightN [97]=true:=by decide
theorem Fh:iC []=some []:=by
 have h:nM []=some []:=by rfl
 unfold iC;rw [h,bU,(iT []).1.eq_nil]
theorem SQ:iC [P8]=some [He]:=by
 have h:nM [P8]=some [He]:=by unfold P8 He;generalize mX=m;rfl
 unfold iC;rw [h,bU,(iT [He]).1.eq_singleton]
theorem DV:(gG eZ).length<=999:=by
 unfold gG FJ;have h1:=kI eZ.st;have h2:=kI eZ.node;have h3:=kI eZ.par;have h4:=eL eZ.seq;have h5:=eL eZ.kind;have h6:=eL (xm eZ.dir);have h7:=fK eZ.nm;have h8:=fK eZ.mf;have h9:eZ.nm.length=1:=rfl;have h10:eZ.mf.length<=41:=lX.2;simp only [aO,ah];omega
theorem YL:r9 eZ=0:=by
 have h1:rightS eZ.st=true:=by decide
 have h2:seqB eZ=false:=by decide
 have h3:Ad eZ=false:=by decide
 have h4:shapedB eZ=true:=by
  have hm:decide (mX.length<=600)=true:=by have:=lX;simp;omega
  unfold shapedB eZ wC;generalize mX=m at hm ⊢;simp [hm];decide
 unfold r9;rw [h1,h2,h3,h4];rfl
end
section
open Go.RowKit
structure gD (w:World) (D who rb rc o p s pb kb nm:Nat) (FL FM:BS) (L1:List dV) (P1:List (List UInt8)) (L2:List dV) (u:Nat) (fs:Fm.Files):Prop where
 blk:Blk w D 158 #[.int .i64 (who:Nat),.slice (some ⟨rb,0,none⟩) 1 rc,.pointer (some ⟨o,0,none⟩),.pointer (some ⟨p,0,none⟩),.pointer (some ⟨s,0,none⟩),.slice none 0 0,.map (some nm)]
 rlt:rb < w.heap.size
 r0:w.cell? ⟨rb,0,none⟩=some (.int .i64 1)
 r1:w.cell? ⟨rb,1,none⟩=some (.string (bs [46]))
 log:lH w FL o L1 P1
 mov:Fg w FM p L2
 sto:Pt.StI w s pb kb 1048576 u fs
 nD:D≠rb/\¬ FL D/\¬ FM D/\¬ Pt.SS s pb kb D
 nR:¬ FL rb/\¬ FM rb/\¬ Pt.SS s pb kb rb
 lm:jV FL FM
 ls:jV FL (Pt.SS s pb kb)
 ms:jV FM (Pt.SS s pb kb)
def P9 (D rb s pb kb:Nat) (FL FM:BS) (i:Nat):Prop:=i=D\/i=rb\/FL i\/FM i\/Pt.SS s pb kb i
section
variable {w w':World} {D who rb rc o p s pb kb nm u u':Nat} {FL FM TG WK:BS} {L1 L2 Rx L2':List dV} {P1 Ry:List (List UInt8)} {fs fs':Fm.Files}
theorem gD.kp {S:BS} (h:gD w D who rb rc o p s pb kb nm FL FM L1 P1 L2 u fs) (k:dY S w w') (hn:∀i,P9 D rb s pb kb FL FM i->¬ S i):gD w' D who rb rc o p s pb kb nm FL FM L1 P1 L2 u fs:=
 ⟨h.blk.kp k (hn D (.inl rfl)),aN h.rlt k.size,(aI (a:=⟨rb,0,none⟩) (k.block rb h.rlt (hn rb (.inr (.inl rfl))))).trans h.r0,(aI (a:=⟨rb,1,none⟩) (k.block rb h.rlt (hn rb (.inr (.inl rfl))))).trans h.r1,
  h.log.kp k (fun i hi=>hn i (.inr (.inr (.inl hi)))),h.mov.kp k (fun i hi=>hn i (.inr (.inr (.inr (.inl hi))))),h.sto.kp k (fun i hi=>hn i (.inr (.inr (.inr (.inr hi))))),h.nD,h.nR,h.lm,h.ls,h.ms⟩
theorem gD.later (h:gD w D who rb rc o p s pb kb nm FL FM L1 P1 L2 u fs) (hb:Below w.heap.size w w'):gD w' D who rb rc o p s pb kb nm FL FM L1 P1 L2 u fs:=h.kp (eR (S:=fun _=>False) hb) (fun _ _ h=>h)
theorem gD.bnd (h:gD w D who rb rc o p s pb kb nm FL FM L1 P1 L2 u fs):P6 (P9 D rb s pb kb FL FM) w:=fun i hi=>by
 rcases hi with rfl|rfl|hi|hi|hi
 ·exact h.blk.lt
 ·exact h.rlt
 ·exact h.log.bnd i hi
 ·exact h.mov.bnd i hi
 ·exact h.sto.bnd i hi
theorem gD.stepL (h:gD w D who rb rc o p s pb kb nm FL FM L1 P1 L2 u fs) (hl:lH w' TG o Rx Ry) (st:gT FL TG w w'):
  gD w' D who rb rc o p s pb kb nm TG FM Rx Ry L2 u fs/\gT (P9 D rb s pb kb FL FM) (P9 D rb s pb kb TG FM) w w':=by
 have hD:=h.blk.lt;have hR:=h.rlt;have hM:=h.mov.bnd;have hS:=h.sto.bnd;have g:∀i,i < w.heap.size->¬ FL i->¬ TG i:=fun i hi hn hF=>by
  rcases st.gro i hF with h1|h1
  ·exact hn h1
  ·omega
 refine ⟨⟨h.blk.kp st.keeps h.nD.2.1,aN h.rlt st.size,(aI (a:=⟨rb,0,none⟩) (st.keeps.block rb h.rlt h.nR.1)).trans h.r0,(aI (a:=⟨rb,1,none⟩) (st.keeps.block rb h.rlt h.nR.1)).trans h.r1,
  hl,h.mov.kp st.keeps h.lm.symm,h.sto.kp st.keeps (fun i hi hF=>h.ls i hF hi),⟨h.nD.1,g D hD h.nD.2.1,h.nD.2.2⟩,⟨g rb hR h.nR.1,h.nR.2⟩,h.lm.gro st.gro hM,h.ls.gro st.gro hS,h.ms⟩,⟨mh st.keeps (fun i _ hi=>.inr (.inr (.inl hi))),?_⟩⟩
 rintro i (h1|h1|h1|h1)
 ·exact .inl (.inl h1)
 ·exact .inl (.inr (.inl h1))
 ·rcases st.gro i h1 with h2|h2
  ·exact .inl (.inr (.inr (.inl h2)))
  ·exact .inr h2
 ·exact .inl (.inr (.inr (.inr h1)))
theorem gD.stepM (h:gD w D who rb rc o p s pb kb nm FL FM L1 P1 L2 u fs) (hm:Fg w' WK p L2') (st:gT FM WK w w'):
  gD w' D who rb rc o p s pb kb nm FL WK L1 P1 L2' u fs/\gT (P9 D rb s pb kb FL FM) (P9 D rb s pb kb FL WK) w w':=by
 have hD:=h.blk.lt;have hR:=h.rlt;have hL:=h.log.bnd;have hS:=h.sto.bnd;have g:∀i,i < w.heap.size->¬ FM i->¬ WK i:=fun i hi hn hF=>by
  rcases st.gro i hF with h1|h1
  ·exact hn h1
  ·omega
 refine ⟨⟨h.blk.kp st.keeps h.nD.2.2.1,aN h.rlt st.size,(aI (a:=⟨rb,0,none⟩) (st.keeps.block rb h.rlt h.nR.2.1)).trans h.r0,(aI (a:=⟨rb,1,none⟩) (st.keeps.block rb h.rlt h.nR.2.1)).trans h.r1,
  h.log.kp st.keeps h.lm,hm,h.sto.kp st.keeps (fun i hi hF=>h.ms i hF hi),⟨h.nD.1,h.nD.2.1,g D hD h.nD.2.2.1,h.nD.2.2.2⟩,⟨h.nR.1,g rb hR h.nR.2.1,h.nR.2.2⟩,(h.lm.symm.gro st.gro hL).symm,h.ls,h.ms.gro st.gro hS⟩,⟨mh st.keeps (fun i _ hi=>.inr (.inr (.inr (.inl hi)))),?_⟩⟩
 rintro i (h1|h1|h1|h1|h1)
 ·exact .inl (.inl h1)
 ·exact .inl (.inr (.inl h1))
 ·exact .inl (.inr (.inr (.inl h1)))
 ·rcases st.gro i h1 with h2|h2
  ·exact .inl (.inr (.inr (.inr (.inl h2))))
  ·exact .inr h2
 ·exact .inl (.inr (.inr (.inr (.inr h1))))
theorem gD.stepS (h:gD w D who rb rc o p s pb kb nm FL FM L1 P1 L2 u fs) (hs:Pt.StI w' s pb kb 1048576 u' fs') (k:dY (Pt.SS s pb kb) w w'):
  gD w' D who rb rc o p s pb kb nm FL FM L1 P1 L2 u' fs'/\gT (P9 D rb s pb kb FL FM) (P9 D rb s pb kb FL FM) w w':=
 ⟨⟨h.blk.kp k h.nD.2.2.2,aN h.rlt k.size,(aI (a:=⟨rb,0,none⟩) (k.block rb h.rlt h.nR.2.2)).trans h.r0,(aI (a:=⟨rb,1,none⟩) (k.block rb h.rlt h.nR.2.2)).trans h.r1,
  h.log.kp k h.ls,h.mov.kp k h.ms,hs,h.nD,h.nR,h.lm,h.ls,h.ms⟩,⟨mh k (fun _ _ hi=>.inr (.inr (.inr (.inr hi)))),Li.refl _ _⟩⟩
end
def stU (P:List (List UInt8)):Nat:=if P=[] then 0 else 1
def xz (P:List (List UInt8)):Fm.Files:=if P=[] then [] else [(kX,[120])]
def fA (w:World) (F:BS) (D who:Nat) (L:List dV) (P:List (List UInt8)):Prop:=
 ∃rb rc o p s pb kb nm FL FM,gD w D who rb rc o p s pb kb nm FL FM L P L (stU P) (xz P)/\F=P9 D rb s pb kb FL FM
theorem fA.kp {S F:BS} {w w':World} {D who:Nat} {L:List dV} {P:List (List UInt8)} (h:fA w F D who L P) (k:dY S w w') (hn:jV F S):fA w' F D who L P:=by
 obtain ⟨rb,rc,o,p,s,pb,kb,nm,FL,FM,hi,rfl⟩:=h;exact ⟨rb,rc,o,p,s,pb,kb,nm,FL,FM,hi.kp k hn,rfl⟩
theorem fA.bnd {F:BS} {w:World} {D who:Nat} {L:List dV} {P:List (List UInt8)} (h:fA w F D who L P):P6 F w:=by
 obtain ⟨rb,rc,o,p,s,pb,kb,nm,FL,FM,hi,rfl⟩:=h;exact hi.bnd
theorem fA.later {F:BS} {w w':World} {D who:Nat} {L:List dV} {P:List (List UInt8)} (h:fA w F D who L P) (hb:Below w.heap.size w w'):fA w' F D who L P:=h.kp (eR (S:=fun _=>False) hb) (nF F)
inductive NK:List dV->List (List UInt8)->List Int->List (List UInt8)->List It->Prop
 |s0:NK [] [] [] [] []
 |s1:NK [eZ] [[120]] [1] [] [He]
 |s2:NK [eZ] [] [1] [kX] [He]
end
section
open Go.RowKit
attribute [local go_sem] dO dL dQ dM
theorem NK.view {L:List dV} {P:List (List UInt8)} {vs:List Int} {ks:List (List UInt8)} {TS:List It} (h:NK L P vs ks TS):iC (fN L)=some TS/\(fN L).length<=80/\∀x∈fN L,rightN x.nm=true:=by
 have h1:iC (fN [])=some []/\(fN []).length<=80/\∀x∈fN [],rightN x.nm=true:=⟨Fh,by decide,fun x hx=>by cases hx⟩;have h2:iC (fN [eZ])=some [He]/\(fN [eZ]).length<=80/\∀x∈fN [eZ],rightN x.nm=true:=by
  rw [SP];exact ⟨SQ,by simp,fun x hx=>by rw [aU.1 hx];exact NJ⟩
 cases h
 ·exact h1
 ·exact h2
 ·exact h2
theorem rE {w:World} {F:BS} {D who:Nat} {L:List dV} {P:List (List UInt8)} {TS:List It} (h:fA w F D who L P) (hv:iC (fN L)=some TS) (hl:(fN L).length<=80) (hr:∀x∈fN L,rightN x.nm=true):
  Calls prog 83 #[.pointer (some ⟨D,0,none⟩)] w fun e w'=>∃A c,e=.returned (.tuple #[.slice A TS.length c,.int .i64 0])/\AM w' A TS.length c TS/\Below w.heap.size w w':=by
 obtain ⟨rb,rc,o,p,s,pb,kb,nm,FL,FM,hi,rfl⟩:=h;have HN:=dH (DT hi.mov);have c3:=hi.blk.cell 3;simp at c3;have HV:dG (∀A n c w',lq w' A n c (fN L)->Calls prog 13 #[.slice A n c] w' (M8 (fN L) w')):=dH (fun A n c w' hx=>vj (fN L) A n c w' hx hl hr);have HE:=dH hv;clear hi hv hl hr;go_enter func83,ntmps83;go_wp2_with fail;refine HN.o.mono ?_;rintro e w1 ⟨A,c,rfl,hn,hb⟩;have V1:=dH (HV.o A _ c w1 hn);have eH:=dH hb;clear hn hb HV HN;obtain ⟨n1,oz⟩:=dB ((fN L).length);rw [<-oz] at V1 ⊢;clear oz;go_wp2_with fail;refine V1.o.mono ?_;rintro e w2 ⟨hb,⟨ys,A2,c2,hy,rfl,hx⟩| ⟨hy,rfl⟩⟩
 ·rw [HE.o] at hy
  cases hy;have HX:=dH hx;have eG:=dF eH hb;obtain ⟨n2,hn2⟩:=dB TS.length;rw [<-hn2] at HX ⊢;have HN2:=dH hn2;clear hx hb hn2;go_wp2_with fail;go_ret2;rw [<-HN2.o];exact ⟨_,_,rfl,HX.o,eG.o⟩
 ·rw [HE.o] at hy
  cases hy
theorem UJ {w:World} {F:BS} {D who:Nat} (h:fA w F D who [] []):
  Calls prog 124 #[.pointer (some ⟨D,0,none⟩)] w (dJ w (.slice none 0 0)):=by
 have HA:=dH (rE h Fh (by decide) (fun x hx=>by cases hx));obtain ⟨rb,rc,o,p,s,pb,kb,nm,FL,FM,hi,rfl⟩:=h;have HI:=dH hi;clear hi;go_enter func124,ntmps124;go_wp2_with fail;refine HA.o.mono ?_;rintro e w1 ⟨A,c,rfl,hx,hb⟩;have hi1:=HI.o.later hb;have c1:=hi1.blk.cell 1;simp at c1;have HB:=dH hb;rw [ah];clear hi1 hx hb HA;go_wp2_with fail;refine (UF A c _ _).mono ?_;rintro e w2 ⟨rfl,hb⟩;have eG:=dF HB hb;clear hb c1;go_wp2_with fail;refine wp_loop_rounds 1 ?_;rw [rounds_succ];go_wp2_with fail;go_ret;exact ⟨rfl,eG.o⟩
theorem UK {w:World} {F:BS} {D who:Nat} (h:fA w F D who [eZ] [[120]]):
  Calls prog 124 #[.pointer (some ⟨D,0,none⟩)] w (dJ w (.slice none 0 0)):=by
 have hv:=NK.view NK.s1;have HA:=dH (rE h hv.1 hv.2.1 hv.2.2);obtain ⟨rb,rc,o,p,s,pb,kb,nm,FL,FM,hi,rfl⟩:=h;have HI:=dH hi;clear hi hv;go_enter func124,ntmps124;go_wp2_with fail;refine HA.o.mono ?_;rintro e w1 ⟨A,c,rfl,hx,hb⟩;have hi1:=HI.o.later hb;have c1:=hi1.blk.cell 1;simp at c1;have Vu:=dH (NI He rfl SO (by have:=lX;show mX.length<=_;omega) A _ c w1 hx rb 0 rc hi1.rlt hi1.r0 hi1.r1);have HB:=dH hb;rw [bw] at Vu ⊢;clear hi1 hx hb HA;go_wp2_with fail;refine Vu.o.mono ?_;rintro e w2 ⟨g2,c2,rfl,Bi,hb⟩;obtain ⟨k0,k1,k2,k3,k4⟩:=DB Bi;have dS:=HB.o.trans (hb.mono HB.o.size);have hi2:=HI.o.later dS;have c4:=hi2.blk.cell 4;simp at c4;have HM:=dH (Pt.missing_any hi2.sto mX (by have:=lX;omega) (by rw [Hf]) (by rw [Hf];intro k' hk';rw [aU.1 hk'];unfold xz;simp [Fm.get,Fm.place]));have eG:=dH dS;have k0':w2.cell? ⟨g2,0,none⟩=some (.string (bs mX)):=k0;clear hi2 hb dS Bi k1 k2 k3 k4 c1 Vu k0;go_wp2_with fail;refine wp_loop_rounds 2 ?_;rw [rounds_succ];go_wp2_with fail;refine HM.o.mono ?_;rintro e w3 ⟨rfl,hb⟩;have dw:=dF eG hb;clear hb HM k0' c4;go_wp2_with fail;refine wp_loop_rounds 1 ?_;rw [rounds_succ];go_wp2_with fail;rw [rounds_succ];go_wp2_with fail;go_ret;exact ⟨rfl,dw.o⟩
theorem NL {w:World} {F:BS} {D who:Nat} (h:fA w F D who [eZ] []):
  Calls prog 124 #[.pointer (some ⟨D,0,none⟩)] w fun e w'=>∃g c,e=.returned (.slice (some ⟨g,0,none⟩) 1 c)/\dN w' w.heap.size 1 (.slice (some ⟨g,0,none⟩) 1 c) 1 [.string (bs kX)]/\Below w.heap.size w w':=by
 have hv:=NK.view NK.s2;have HA:=dH (rE h hv.1 hv.2.1 hv.2.2);obtain ⟨rb,rc,o,p,s,pb,kb,nm,FL,FM,hi,rfl⟩:=h;have HI:=dH hi;obtain ⟨j0,hj,hy0,hy1,hy2⟩:=info_parts Ik.info9s;have HJ:=dH hj;have uo:=dH hy0;have zc:=dH hy1;have ze:=dH hy2;clear hi hv hj hy0 hy1 hy2;go_enter func124,ntmps124;go_wp2_with fail;refine HA.o.mono ?_;rintro e w1 ⟨A,c,rfl,hx,hb⟩;have hi1:=HI.o.later hb;have c1:=hi1.blk.cell 1;simp at c1;have Vu:=dH (NI He rfl SO (by have:=lX;show mX.length<=_;omega) A _ c w1 hx rb 0 rc hi1.rlt hi1.r0 hi1.r1);have HB:=dH hb;rw [bw] at Vu ⊢;clear hi1 hx hb HA;go_wp2_with fail;refine Vu.o.mono ?_;rintro e w2 ⟨g2,c2,rfl,Bi,hb⟩;obtain ⟨k0,k1,k2,k3,k4⟩:=DB Bi;have dS:=HB.o.trans (hb.mono HB.o.size);have hi2:=HI.o.later dS;have c4:=hi2.blk.cell 4;simp at c4;have HM:=dH (Pt.missing1 hi2.sto mX (by have:=lX;omega) kX 1 Hf (by unfold xz;simp [Fm.get,Fm.place]));have eG:=dH dS;have k0':w2.cell? ⟨g2,0,none⟩=some (.string (bs mX)):=k0;clear hi2 hb dS Bi k1 k2 k3 k4 c1 Vu k0;go_wp2_with fail;refine wp_loop_rounds 2 ?_;rw [rounds_succ];go_wp2_with fail;refine HM.o.mono ?_;rintro e w3 ⟨g3,c3,rfl,zf,hb⟩;obtain ⟨k0,k1,k2,k3,k4⟩:=DB zf;have dw:=dF eG hb;clear hb HM k0' c4 zf k1 k2 k3 k4;go_wp2_with fail;refine wp_loop_rounds 2 ?_;rw [rounds_succ];go_wp2_with fail;refine (slices_Contains_string_empty none 0 _ _).mono ?_;rintro e w4 ⟨rfl,rfl⟩;go_wp2_with (at_builtin;refine dU _ rfl (.tmp 49) (.tmp 51) 99 99 rfl 9 j0 (.string ⟨#[]⟩) 1 underlying99 HJ.o uo.o zc.o rfl (by decide) rfl _ rfl 1 (by decide) [.string (bs kX)] (Src.one underlying99 (by simp [go_sem]) rfl) (by decide) (by rw [ze.o];decide) ?_)
 intro cap w5 hown eu;have aac:=((aC _ _).alloc (aB _) _).trans (eu.mono (by simp));obtain ⟨G,hG⟩:=dB (w4.heap.size+1);rw [<-hG] at hown;have HO:=dH (dN.mono (B':=w.heap.size) hown (by have:=dw.o.size;omega));have fk:=dF dw aac;have HG:=dH hG;clear hown eu aac hG dw k0;rw [<-HG.o];go_wp2_with fail;rw [rounds_succ];go_wp2_with fail;rw [rounds_succ];go_wp2_with fail;go_ret;exact ⟨G,cap,rfl,HO.o,fk.o⟩
theorem gD.c2 {w:World} {D who rb rc o p s pb kb nm u:Nat} {FL FM:BS} {L1 L2:List dV} {P1:List (List UInt8)} {fs:Fm.Files} (h:gD w D who rb rc o p s pb kb nm FL FM L1 P1 L2 u fs):w.cell? ⟨D,2,none⟩=some (.pointer (some ⟨o,0,none⟩)):=h.blk.cell 2
theorem Hg {w:World} {A:Option Addr} {c:Nat} (h:sI w (.slice A 1 c) [eZ]):Calls prog 126 #[.slice A 1 c] w fun e w'=>∃A' c',e=.returned (.slice A' 1 c')/\pQ w' (.slice A' 1 c') [1]/\Below w.heap.size w w':=by
 rcases h with ⟨h,_⟩| ⟨b,off,c1,x,hx,hv,hlt,hc,h1,h2⟩
 ·cases h
 ·cases hx
  cases hv;have hs:Ia w (some ⟨b,off,none⟩) 1 c [eZ]:=⟨rfl,h1,h2,fun i hi=>by
   obtain rfl:i=0:=by simp at hi;omega
   refine ⟨b,off,oc eZ,rfl,hlt,rfl,⟨rfl,DU⟩,fun j u hu=>?_⟩;have:=hc j u hu;simpa using this⟩
  refine (Ql eZ rfl (some ⟨b,off,none⟩) 1 c w hs).mono ?_;rintro e w' ⟨A',c',rfl,hs',hb⟩;exact ⟨A',c',rfl,aaP hs',hb⟩
theorem lC {w:World} {B:Nat} {v:Value} {x:dV} (h:uC w B v [x]):∃A c,v=.slice A 1 c/\sI w (.slice A 1 c) [x]:=by
 have hl:=uC.ls h (fun e=>by cases e) (by simp);obtain ⟨A,c,rfl⟩:=hl.form;exact ⟨A,c,rfl,hl⟩
theorem UL {w:World} {F:BS} {D who:Nat} (h:fA w F D who [] []):Calls prog 77 #[.pointer (some ⟨D,0,none⟩)] w (dJ w (.string (bs (dz [] [])))):=by
 have HL:=dH (UJ h);obtain ⟨rb,rc,o,p,s,pb,kb,nm,FL,FM,hi,rfl⟩:=h;have HI:=dH hi;clear hi;go_enter func77,ntmps77;go_wp2_with fail;refine HL.o.mono ?_;rintro e w2 ⟨rfl,hb⟩;have HK:dG (nQ w2.drew (.slice none 0 0) []):=dH (.inl ⟨rfl,rfl⟩);have rV:=dH (HI.o.later hb);have oq:=dH (rV.o.later (aC _ w2).drew);have eG:=dH (hb.drew);clear hb HL;have hm0:min (0:Int) 16=0:=by decide
 go_wp2_with fail;go_region_held3 (fun w'=>w'.cell? ⟨D,2,none⟩=some (.pointer (some ⟨o,0,none⟩)))
  (with_reducible first|exact gD.c2 EP.o|exact gD.c2 td.o|exact gD.c2 pF.o|exact gD.c2 oq.o|exact gD.c2 rV.o)
  (first
   |(go_at_call 127;refine (iz oq.o.log).mono ?_;rintro e w3 ⟨v',rfl,ho,hn,hb⟩;obtain rfl:=hn rfl;have H3:=dH hb;clear ho hn hb;have pF:=dH (oq.o.later H3.o))
   |(go_at_call 126;refine (Qj _).mono ?_;rintro e w4 ⟨rfl,hb⟩;have HV:dG (pQ w4 (.slice none 0 0) []):=dH (.inl ⟨rfl,rfl⟩);have H4:=dF H3 hb;clear hb;have td:=dH (oq.o.later H4.o))
   |(go_at_call 125;refine (sP HV.o (HK.o.later H4.o) (by intro x hx;cases hx) (by intro x hx;cases hx)).mono ?_;rintro e w5 ⟨rfl,hb⟩;have H5:=dF H4 hb;have EP:=dH (oq.o.later H5.o);clear hb))
 all_goals
  go_wp2_with fail;go_ret;exact ⟨rfl,eG.o.trans (H5.o.mono eG.o.size)⟩
theorem UM {w:World} {F:BS} {D who:Nat} (h:fA w F D who [eZ] [[120]]):Calls prog 77 #[.pointer (some ⟨D,0,none⟩)] w (dJ w (.string (bs (dz [1] [])))):=by
 have HL:=dH (UK h);obtain ⟨rb,rc,o,p,s,pb,kb,nm,FL,FM,hi,rfl⟩:=h;have HI:=dH hi;clear hi;go_enter func77,ntmps77;go_wp2_with fail;refine HL.o.mono ?_;rintro e w2 ⟨rfl,hb⟩;have HK:dG (nQ w2.drew (.slice none 0 0) []):=dH (.inl ⟨rfl,rfl⟩);have rV:=dH (HI.o.later hb);have oq:=dH (rV.o.later (aC _ w2).drew);have eG:=dH (hb.drew);clear hb HL;have hm0:min (0:Int) 16=0:=by decide
 go_wp2_with fail;go_region_held3 (fun w'=>w'.cell? ⟨D,2,none⟩=some (.pointer (some ⟨o,0,none⟩)))
  (with_reducible first|exact gD.c2 EP.o|exact gD.c2 td.o|exact gD.c2 pF.o|exact gD.c2 oq.o|exact gD.c2 rV.o)
  (first
   |(go_at_call 127;refine (iz oq.o.log).mono ?_;rintro e w3 ⟨v',rfl,ho,hn,hb⟩;obtain ⟨Ao,co,rfl,hlo⟩:=lC ho;have HLO:=dH hlo;have H3:=dH hb;clear ho hn hb hlo;have pF:=dH (oq.o.later H3.o))
   |(go_at_call 126;refine (Hg HLO.o).mono ?_;rintro e w4 ⟨Av,cv,rfl,hvv,hb⟩;have HV:=dH hvv;have H4:=dF H3 hb;clear hb hvv;have td:=dH (oq.o.later H4.o))
   |(go_at_call 125;refine (sP HV.o (HK.o.later H4.o) (by intro x hx;rw [aU.1 hx];decide) (by intro x hx;cases hx)).mono ?_;rintro e w5 ⟨rfl,hb⟩;have H5:=dF H4 hb;have EP:=dH (oq.o.later H5.o);clear hb))
 all_goals
  go_wp2_with fail;go_ret;exact ⟨rfl,eG.o.trans (H5.o.mono eG.o.size)⟩
theorem UN {w:World} {F:BS} {D who:Nat} (h:fA w F D who [eZ] []):Calls prog 77 #[.pointer (some ⟨D,0,none⟩)] w (dJ w (.string (bs (dz [1] [kX])))):=by
 have HL:=dH (NL h);obtain ⟨rb,rc,o,p,s,pb,kb,nm,FL,FM,hi,rfl⟩:=h;have HI:=dH hi;clear hi;go_enter func77,ntmps77;go_wp2_with fail;refine HL.o.mono ?_;rintro e w2 ⟨g,c,rfl,ho,hb⟩;have hk0:=fZ.ls (xs:=[kX]) ho (fun e=>by cases e) (by simp);have HK:dG (nQ w2.drew (.slice (some ⟨g,0,none⟩) 1 c) [kX]):=dH (hk0.later (aC _ w2).drew);obtain ⟨g',c',e',-,-,-,hc1,hc2⟩:=iO ho rfl;cases e';have hcI:(1:Int)<=(c:Int):=by omega
 clear ho hk0;have rV:=dH (HI.o.later hb);have oq:=dH (rV.o.later (aC _ w2).drew);have eG:=dH (hb.drew);clear hb HL;have hm0:min (1:Int) 16=1:=by decide
 go_wp2_with fail;go_region_held3 (fun w'=>w'.cell? ⟨D,2,none⟩=some (.pointer (some ⟨o,0,none⟩)))
  (with_reducible first|exact gD.c2 EP.o|exact gD.c2 td.o|exact gD.c2 pF.o|exact gD.c2 oq.o|exact gD.c2 rV.o)
  (first
   |(go_at_call 127;refine (iz oq.o.log).mono ?_;rintro e w3 ⟨v',rfl,ho,hn,hb⟩;obtain ⟨Ao,co,rfl,hlo⟩:=lC ho;have HLO:=dH hlo;have H3:=dH hb;clear ho hn hb hlo;have pF:=dH (oq.o.later H3.o))
   |(go_at_call 126;refine (Hg HLO.o).mono ?_;rintro e w4 ⟨Av,cv,rfl,hvv,hb⟩;have HV:=dH hvv;have H4:=dF H3 hb;clear hb hvv;have td:=dH (oq.o.later H4.o))
   |(go_at_call 125;refine (sP HV.o (HK.o.later H4.o) (by intro x hx;rw [aU.1 hx];decide) (by intro x hx;rw [aU.1 hx];exact wQ)).mono ?_;rintro e w5 ⟨rfl,hb⟩;have H5:=dF H4 hb;have EP:=dH (oq.o.later H5.o);clear hb))
 all_goals
  go_wp2_with fail;go_ret;exact ⟨rfl,eG.o.trans (H5.o.mono eG.o.size)⟩
end
end Go.Proofs.YtgdaahffmcfhpaaGreatDoor
