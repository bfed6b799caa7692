/- Lemmas on the way: KDc KDw KDd KDe KDf. -/
import Derived.Test.YtgdaahffmcfhpaaGreatDoorO21
set_option maxRecDepth 100000
set_option maxHeartbeats 8000000
namespace Go.Proofs.YtgdaahffmcfhpaaGreatDoor
open aA
open Tryz
namespace Dk
open Go.RowKit Fm
attribute [local go_sem] dR dO dS dP
theorem run_make (w:World):(Instr.makeMap 191 none).run prog w=.ok (.map (some w.heap.size)) (w.alloc (.map #[] 0)):=by simp [go_sem,Instr.makeMap]
theorem new_any (n:Nat) (h1:1<=n) (h2:n<=16777216) (w:World):
  Calls prog 66 #[.int .i64 (n:Nat)] w λe w'=>∃d nb fb,e=.returned (.tuple #[.pointer (some ⟨d,0,none⟩),qn])/\Dsk w w' d nb fb (.slice none 0 0) ⟨n,[],[],[],0,false⟩/\Below w w w'/\w.heap.size<=d/\w.heap.size<=nb/\w.heap.size<=fb:=by
 have yu:=run_make w;have hm2:=run_make (w.alloc (.map #[] 0));have c1:decide ((n:Int) < 1)=false:=by simp;omega
 have c2:decide ((16777216:Int) < n)=false:=by simp;omega
 go_enter func66,ntmps66;go_wp2_with fail;go_ret2;refine ⟨w.heap.size+2,w.heap.size,w.heap.size+1,by simp,⟨?_,?_,?_,by omega,Rowed.nil_ _ _⟩,?_,by omega,by omega,by omega⟩
 ·have:=Blk.new ((w.alloc (.map #[] 0)).alloc (.map #[] 0)) 194 #[.int .i64 (n:Nat),.map (some w.heap.size),.map (some (w.heap.size+1)),(),qn,false]
  rwa [show ((w.alloc (.map #[] 0)).alloc (.map #[] 0)).heap.size=w.heap.size+2 from by simp] at this
 ·exact (Fs.new w).alloc _|>.alloc _
 ·have:=(Fs.new (w.alloc (.map #[] 0))).alloc (.cells #[.int .i64 (n:Nat),.map (some w.heap.size),.map (some (w.heap.size+1)),(),qn,false] 194)
  rwa [show (w.alloc (.map #[] 0)).heap.size=w.heap.size+1 from by simp] at this
 ·exact (((aC _ w).alloc (aB _) _).alloc (by simp) _).alloc (by simp;omega) _
variable {v:Value} {w:World}
theorem EC{B d nb fb:Nat} {st:DS} (h:Dsk B w d nb fb v st) (hd:st.dead=false) (name:Bytes) (k:Nat) (h1:1<=name.length) (h2:name.length<=24) (hk:k<=st.limit):
  Calls prog 353 #[Qp d,name,.int .i64 (k:Nat)] w λe w'=>e=.returned qn/\w=w':=by
 have q0:w.cell? d=some (.int .i64 (st.limit:Nat)):=h.blk.cell 0;have q5:w.cell? (Qc d 5)=false:=by rw [<-hd];exact h.blk.cell 5
 have c1:(bs name).toList.isEmpty=false:=by
  rw [dS];exact List.isEmpty_eq_false_iff.2 (λe=>by rw [e] at h1;simp at h1)
 have c2:decide ((24:Int) < (name.length:Int))=false:=by simp;omega
 have c3:decide ((k:Int) < 0)=false:=by simp
 have c4:decide ((st.limit:Int) < (k:Int))=false:=by simp;omega
 have c5:(name ==[])=false:=by
  rw [beq_eq_false_iff_ne];exact λe=>by rw [e] at h1;simp at h1
 clear h hd;go_enter func353,ntmps353;go_wp2_with fail;go_ret;exact ⟨rfl,rfl⟩
theorem Sf (a b:Int):(a ==b)=decide (a=b):=by rw [Bool.eq_iff_iff];simp
def diesSt (st:DS):DS:=if 0 < st.armed then { st with armed:=st.armed - 1,dead:=decide (st.armed - 1=0) } else st
theorem ED{B d nb fb:Nat} {st:DS} (h:Dsk B w d nb fb v st) (ha:st.armed<=9223372036854775807):
  Calls prog 356 #[Qp d] w λe w'=>e=.returned (.bool (diesSt st).dead)/\Dsk B w' d nb fb v (diesSt st)/\w.grownBy w' (some d):=by
 obtain ⟨limit,now,firm,acts,armed,dead⟩:=st;have hblk:=h.blk;have q4:=hblk.cell 4;have q5:=hblk.cell 5;have f4:=hblk.frozen 4;have f5:=hblk.frozen 5;simp only at q4 q5 ha;have vR:=hblk.set_ 4 (.int .i64 (armed - 1));have Md:=vR.set_ 5 (.bool (decide (armed - 1=0)));have r4:=vR.cell 4;have g5:=vR.frozen 5;have hg:w.grownBy ((w.setCell (Qc d 4) (.int .i64 (armed - 1))).setCell (Qc d 5) (decide (armed - 1=0))) (some d):=
  dh (dh (dz w _) (p:=Qc d 4) (.inl rfl) _) (p:=Qc d 5) (.inl rfl) _
 by_cases c:0 < armed
 ·have hw1:wrap64 (armed - 1)=armed - 1:=by unfold wrap64;omega
  have s5:=Md.cell 5;simp at r4 s5 q4 q5;have H:=dL h;have HG:=dL hg;have CQ:=dL Md;clear h hg Md vR hblk;go_enter func356,ntmps356;go_wp2_with fail;go_ret;refine ⟨?_,H.o.cells HG.o ?_ ?_ ?_ ?_,?_⟩
  ·exact Cz (by simp only [diesSt,if_pos c];exact Sf _ _)
  ·simp only [diesSt,if_pos c];exact CQ.o
  all_goals (try simp only [diesSt,if_pos c])
  exact HG.o
 ·have C1:=dL c
  clear vR Md r4 g5 hg;have c':decide (armed > 0)=false:=by simpa using c
  simp at q4 q5;have H:=dL h;clear h hblk;go_enter func356,ntmps356;go_wp2_with fail;go_ret;refine ⟨?_,?_,dz _ _⟩
  ·exact Cz (by simp only [diesSt,if_neg (Int.not_lt.2 C1.o)])
  ·simp only [diesSt,if_neg (Int.not_lt.2 C1.o)];exact H.o
theorem OF (s data:Bytes) (k:Nat) (w:World) (hs:s.length<=100000000) (hd:data.length<=100000000) (hk:k<=8192) (hks:k<=s.length):
  Calls prog 421 #[s,.int .i64 (k:Nat),data] w (dM w (.string (bs (laidL s k data)))):=by
 have main:∀(s':Bytes),k<=s'.length->s'.length<=100100000->∃a1 a2 m,(bs s').extract 0 k=bs a1/\(bs s').extract m s'.length=bs a2/\min (s'.length:Int) ((k:Int)+(data.length:Int))=((m:Nat):Int)/\m<=s'.length/\
   a1.length+data.length<=9223372036854775807/\a1.length+data.length+a2.length<=9223372036854775807/\a1++data++a2=s'.take k++data++s'.drop (min s'.length (k+data.length)):=by
  intro s' h1 h2;refine ⟨s'.take k,s'.drop (min s'.length (k+data.length)),min s'.length (k+data.length),?_,?_,by omega,by omega,by simp;omega,by simp;omega,rfl⟩
  ·rw [fM];simp
  ·rw [fM,af (by simp)]
 obtain ⟨s',h1,h2,h3,h4⟩:∃s',k<=s'.length/\s'.length<=100100000/\laidL s k data=s'.take k++data++s'.drop (min s'.length (k+data.length))/\s'=s++zeros (k - s.length):=
  ⟨s++zeros (k - s.length),by simp [zeros];omega,by simp [zeros];omega,rfl,rfl⟩
 obtain ⟨a1,a2,m,x1,x2,x3,x4,x5,x6,x7⟩:=main s' h1 h2;rw [h3,<-x7];have H1:(k:Int)<=(s'.length:Int):=by omega
 have H4:(m:Int)<=(s'.length:Int):=by omega
 have hz:=dL h4;have x3':(if (k:Int)+(data.length:Int) < (s'.length:Int) then (k:Int)+(data.length:Int) else (s'.length:Int))=((m:Nat):Int):=by omega
 clear main h3 x7 h4;have c':decide ((s.length:Int) < (k:Int))=false:=by simp;omega
 obtain rfl:s'=s:=by rw [hz.o,show k - s.length=0 from by omega];simp [zeros]
 have HB:=dL (aC w w);clear hz;clear hks;go_enter func421,ntmps421;go_wp2_with fail;refine wp_region_quiet_lit (by kernel_rfl) (by kernel_rfl) ?_;repeat (go_big_quiet_step (fail))
 refine wpQuiet_nil ?_;rintro _ ⟨nq,rfl⟩;go_wp2_with fail;go_ret;rw [bx];exact ⟨rfl,⟨HB.o.os,HB.o.tape,HB.o.output,HB.o.size,HB.o.block⟩⟩
end Dk
namespace Dk
open Go.RowKit Fm
attribute [local go_sem] dR dO dS dP
theorem uO (w:World):(zeroValue 9).run prog w=.ok (.string ⟨#[]⟩) w:=zeroValue9 w
def Short (n:Nat) (fs:Files):Prop:=∀e∈fs,e.2.length<=n
theorem Short.get {n:Nat}:∀{fs:Files} (_:Short n fs) (k:Bytes),((Fm.get fs k).getD []).length<=n
 | [],_,_=>aS _
 |e :: r,h,k=>by
  by_cases c:e.1=k
  ·simp only [Fm.get,Fm.place,if_pos c];exact h e (by simp)
  ·have ih:=Short.get (fs:=r) (λx hx=>h x (List.mem_cons_of_mem _ hx)) k
   simp only [Fm.get,Fm.place,if_neg c] at ih ⊢;simpa [Option.map_map,Function.comp_def] using ih
theorem OG (t:Bool) (l:Bytes):(half t l).length<=l.length:=by unfold half;split <;> simp <;> omega
theorem Sg {p q r b:Nat} {a:Wr} {fs:Files} (t:Bool) (w:World) (hp:Blk w p 9 #[a.data]) (hq:Blk w q 9 #[a.name]) (hr:Blk w r 3 #[.int .i64 (a.at_:Nat)]) (hb:Fs w b fs)
  (hs:((Fm.get fs a.name).getD []).length<=100000000) (hd:a.data.length<=100000000) (hk:a.at_<=8192) (hks:a.at_<=((Fm.get fs a.name).getD []).length):
  Calls prog 420 #[.map (some b),t,Qp p,Qp q,Qp r] w λe w'=>e=.returned (.tuple #[])/\Fs w' b (doneL fs a t)/\w.grownBy w' (some b):=by
 have cp:=hp.cell 0;have cq:=hq.cell 0;have cr:=hr.cell 0;simp at cp cq cr;have abP:∀x:eE w,(Instr.lookup 191 (.map (some b)) (.string (bs a.name)) false).run prog x.wd=.ok (.string (bs ((Fm.get fs a.name).getD []))) x.wd:=
  λx=>(hb.below x.below).look underlying191 underlying9 uO a.name
 have kp:∀x:eE w,x.wd.cell? p=a.data:=λx=>x.cell cp
 have kq:∀x:eE w,x.wd.cell? q=a.name:=λx=>x.cell cq
 have kr:∀x:eE w,x.wd.cell? r=some (.int .i64 (a.at_:Nat)):=λx=>x.cell cr
 have hhd:(half t a.data).length<=100000000:=aI (OG _ _) hd;obtain ⟨s0,hs0⟩:=dG ((Fm.get fs a.name).getD []);rw [<-hs0] at abP hs hks;obtain ⟨dt,hdt⟩:=dG (half t a.data);rw [<-hdt] at hhd;have HB:=dL hb;have HS:=dL hs0;have HD:=dL hdt;clear hb hs0 hdt hp hq hr;cases t
 case' false=>
  have e1:dt=a.data:=HD.o;rw [<-e1] at cp kp;clear e1;go_enter func420,ntmps420;go_wp2_with fail
 case' true=>
  obtain ⟨m,hm⟩:=dG (a.data.length / 2);have e1:(bs a.data).extract 0 m=bs dt:=by rw [HD.o,fM,hm];simp [half]
  have e2:((a.data.length:Nat):Int) / 2=((m:Nat):Int):=by omega
  have e3:(m:Int)<=a.data.length:=by omega
  have e4:wrap64 (m:Int)=m:=by unfold wrap64;omega
  clear hm;go_enter func420,ntmps420;go_wp2_with fail
 all_goals
  refine mF 8 (by kernel_rfl) (by kernel_rfl) ?_;simp only [dA,List.take_zero,List.drop_succ_cons,bz];repeat (go_big_quiet_step ((go_at_call 421;exact gX (OF s0 dt a.at_ _ hs hhd hk hks))))
  refine wpQuiet_nil ?_;rintro _ ⟨x,rfl⟩;obtain ⟨w2,hr2,Hx,hg2,_⟩:=(HB.o.below x.below).store underlying191 underlying9 a.name (laidL s0 a.at_ dt);have HF:=dL Hx;have HG:=dL hg2;clear Hx hg2;go_wp2_with fail;go_end0;refine ⟨rfl,?_,fJ (fC x.below _) HG.o⟩;have:=HF.o;rw [HS.o,HD.o] at this;exact this
end Dk
namespace Dk
open Go.RowKit Fm
attribute [local go_sem] dR dO dS dP
theorem WN:(prog.info? 311).map (λi=>(i.zero,i.size,i.bytes))=some (some .nilFunc,1,8):=by kernel_rfl
theorem Dsk.append {B d nb fb n:Nat} {v v':Value} {st:DS} {w w2:World} {us:List Value} {u:Value} {a:Wr} (h:Dsk B w d nb fb v st) (hus:w.ownsRow B 311 1 v st.acts.length us) (hac:oN w us st.acts) (hu:rm w u a)
  (hn:n=st.acts.length+1) (hown:w2.ownsRow B 311 1 v' n (us++[u])) (hg:w.grownBy w2 v.ownBlock):
  Dsk B (w2.setCell (Qc d 3) v') d nb fb v' { st with acts:=st.acts++[a] }/\rm (w2.setCell (Qc d 3) v') u a/\dm (KS d nb v) w (w2.setCell (Qc d 3) v'):=by
 have Xg:∀g,v.ownBlock=some g->iV w g:=iV.row hus;have b2:Blk w2 d 194 _:=h.blk.grown hg (λe=>h.acts.ne_blk h.blk (by decide) e.symm);have b3:=b2.set_ 3 v';have hg3:w2.grownBy (w2.setCell (Qc d 3) v') (some d):=dh (dz _ _) (p:=Qc d 3) (.inl rfl) _;have hd2:∀g,some d=some g->iV w2 g:=λg e=>by cases e;exact iV.blk b2 (by decide) (by decide)
 have n2:Fs w2 nb st.now:=h.now.grown hg (λe=>h.acts.ne_fs h.now e.symm);have f2:Fs w2 fb st.firm:=h.firm.grown hg (λe=>h.acts.ne_fs h.firm e.symm);have a2:oN w2 (us++[u]) (st.acts++[a]):=(hac.grown hg Xg).snoc (hu.grown hg Xg);have hr2:Rowed w2 B v' (st.acts++[a]):=⟨us++[u],by rw [aP,List.length_singleton,<-hn];exact hown,a2⟩;refine ⟨⟨b3,n2.grown hg3 (λe=>n2.ne_blk b2 (by cases e;rfl)),f2.grown hg3 (λe=>f2.ne_blk b2 (by cases e;rfl)),h.ne,hr2.grown hg3 hd2 (.inr (hr2.ne_blk b2 (by decide)))⟩,(hu.grown hg Xg).grown hg3 hd2,?_⟩;exact dw (ek hg (λi e=>.inr (.inr e))) ⟨d,3,none⟩ v' (λ_=>.inl rfl)
def writeSt (st:DS) (a:Wr):DS:=
 let s2:=diesSt { st with acts:=st.acts++[a] }
 if s2.dead then s2 else { s2 with now:=doneL s2.now a false }
theorem Sh {B d nb fb:Nat} {v u:Value} {st:DS} {w:World} {a:Wr} (hB:B<=w.heap.size) (h:Dsk B w d nb fb v st) (hu:rm w u a) (hn:st.acts.length<=1000) (ha:st.armed<=9223372036854775807)
  (hs:Short 100000000 st.now) (hd:a.data.length<=100000000) (hk:a.at_<=8192) (hks:a.at_<=((Fm.get st.now a.name).getD []).length):
  Calls prog 354 #[Qp d,u] w λe w'=>∃v',e=.returned (.int .i64 (if (writeSt st a).dead then 42 else 0))/\Dsk B w' d nb fb v' (writeSt st a)/\dm (KS d nb v) w w':=by
 suffices main:∀st',writeSt st a=st'->∀code:Int,code=(if st'.dead then 42 else 0)->Calls prog 354 #[Qp d,u] w λe w'=>∃v',e=.returned code/\Dsk B w' d nb fb v' st'/\dm (KS d nb v) w w' from main _ rfl _ rfl
 intro st' Qu code nA;have r8:=dL Qu;have Jd:=dL nA;clear Qu nA;obtain ⟨i0,hi,hz0,hz1,hz2⟩:=info_parts WN;obtain ⟨w0,hw0⟩:=dG (w.alloc (.cells #[u] 311));have hb0:Below w w w0:=by rw [hw0];exact (aC _ w).alloc (aB _) _
 have h0:=h.later hb0;have MW:=hu.grown (fC hb0 none) (λ_ e=>by cases e);obtain ⟨us,hus,hac⟩:=h0.acts;have c0:w0.cell? w=some u:=by rw [hw0];simp
 have yS:B<=w0.heap.size:=aI hB hb0.size;have q3:w.cell? (Qc d 3)=some v:=h.blk.cell 3;have q30:w0.cell? (Qc d 3)=some v:=h0.blk.cell 3;obtain ⟨p,q,r,rfl,_,_,_⟩:=id hu;have yM:=dL hb0;have HW:=dL hw0;have H0:=dL h0;have HU:=dL MW;have HUS:=dL hus;have HAC:=dL hac;have HSH:=dL hs;have VO:=dL hks;clear hks;clear hb0 hw0 h0 MW hus hac h hu hs;go_enter func354,ntmps354;go_wp2_with (at_builtin;rw [<-HW.o];(refine wpList_append_own _ rfl _ _ 192 rfl B 311 i0 _ 1 8 underlying192 hi hz0 hz1 hz2 rfl (by decide) v _ us rfl HUS.o ⟨w.heap.size,0,none⟩ 1 1 [.func (.func 420) #[] #[Qp p,Qp q,Qp r]] rfl ?c1 ?c2 ?c3 ?c4 ?c5 yS ?_))
 case c1=>rfl
 case c2=>
  intro j u hj
  match j,hj with
  |0,hj=>cases hj;exact c0
 case c3=>
  intro x hx;cases aW.1 hx;rfl
 case c4=>unfold maxLen;omega
 case c5=>omega
 intro v' w2 Qv hg2 _;obtain ⟨h3,hu3,dn⟩:=H0.o.append HUS.o HAC.o HU.o rfl Qv hg2;obtain ⟨ao,n',cap,rfl⟩:∃ao n' cap,v'=.slice ao n' cap:=by
  rcases Qv.2 with ⟨hv,_⟩| ⟨g,cap,cur,hv,_⟩
  ·exact ⟨_,_,_,hv⟩
  ·exact ⟨_,_,_,hv⟩
 have b2:Blk w2 d 194 _:=H0.o.blk.grown hg2 (λe=>H0.o.acts.ne_blk H0.o.blk (by decide) e.symm);have d3:=b2.cell 3;have f3:=b2.frozen 3;simp at d3;obtain ⟨w3,jD⟩:=dG (w2.setCell (Qc d 3) (.slice ao n' cap));rw [<-jD] at h3 hu3 dn;have vO:dm (KS d nb v) w w3:=eF (eO (S:=KS d nb v) yM.o) dn (λ_ _ h=>h);have hdies:=ED h3 (by exact ha);have ZK:writeSt st a=if (diesSt { st with acts:=st.acts++[a] }).dead then diesSt { st with acts:=st.acts++[a] } else { diesSt { st with acts:=st.acts++[a] } with now:=doneL (diesSt { st with acts:=st.acts++[a] }).now a false }:=rfl
 have Xh:(diesSt { st with acts:=st.acts++[a] }).now=st.now:=by unfold diesSt;split <;> rfl
 obtain ⟨s2,hs2⟩:=dG (diesSt { st with acts:=st.acts++[a] });rw [<-hs2] at hdies ZK Xh;have HDI:=dL hdies;have H3:=dL h3;have HU3:=dL hu3;have eC:=dL vO;have rB:=dL jD;have HWS:=dL ZK;have abQ:=dL Xh;clear h3 hu3 dn vO jD hdies b2 Qv hg2 q3 q30 c0 HUS HAC H0 HU yM hs2 ZK Xh;by_cases c:s2.dead=true
 case' pos=>
  have e1:dK (st'=s2):=dL (by rw [<-r8.o,HWS.o,if_pos c]);have e2:code=42:=by rw [Jd.o,e1.o,if_pos c]
  have HC:=dL c;go_wp2_with fail;rw [<-rB.o];refine HDI.o.mono ?_;rintro e w4 ⟨rfl,h4,hg4⟩;rw [HC.o];have H4:=dL h4;have VN:=dL hg4;clear h4 hg4 c;go_wp2_with fail;go_ret;rw [e1.o,e2];exact ⟨_,rfl,H4.o,eF eC.o (ek (S:=KS d nb v) VN.o (λi e=>.inl (by cases e;rfl))) (λ_ _ h=>h)⟩
 case' neg=>
  have c':s2.dead=false:=by simpa using c
  have e1:dK (st'={ s2 with now:=doneL s2.now a false }):=dL (by rw [<-r8.o,HWS.o,if_neg c]);have e2:code=0:=by rw [Jd.o,e1.o];simp [c']
  have HC:=dL c';go_wp2_with fail;rw [<-rB.o];refine HDI.o.mono ?_;rintro e w4 ⟨rfl,h4,hg4⟩;rw [HC.o];have hd4:Blk w3 d 194 _:=H3.o.blk;have hu4:=HU3.o.grown hg4 (λg e=>by cases e;exact iV.blk hd4 (by decide) (by decide));obtain ⟨p',q',r',e',hp,hq,hr⟩:=hu4;cases e';have k1:w4.cell? (Qc d 1)=some (.map (some nb)):=h4.blk.cell 1;have hact:=Sg false w4 hp hq hr h4.now (by rw [abQ.o];exact HSH.o.get _) hd hk (by rw [abQ.o];exact VO.o);have HA:=dL hact;have HBp:=dL (eF eC.o (ek (S:=KS d nb v) hg4 (λi e=>.inl (by cases e;rfl))) (λ_ _ h=>h));have H4:=dL h4;clear hact h4 hg4 hp hq hr c c' hd4;go_wp2_with (go_at_call 420;refine HA.o.mono ?_;rintro e w5 ⟨rfl,Vo,IW⟩;have H5:=dL (H4.o.written IW Vo);have HG5:=dL IW;clear Vo IW)
  go_ret;rw [e1.o,e2];exact ⟨_,rfl,H5.o,eF HBp.o (ek (S:=KS d nb v) HG5.o (λi e=>.inr (.inl (by cases e;rfl)))) (λ_ _ h=>h)⟩
end Dk
namespace Dk
open Go.RowKit Fm
attribute [local go_sem] dR dO dS dP
theorem xX:∀(fs:Files) (k:Bytes),((Fm.get fs k).getD []).length<=tot fs
 | [],_=>aS _
 |e :: r,k=>by
  by_cases c:e.1=k
  ·simp [Fm.get,Fm.place,c,tot]
  ·have ih:=xX r k
   simp only [Fm.get,Fm.place,if_neg c,tot,bB,List.sum_cons] at ih ⊢;simp only [Option.map_map,Function.comp_def];omega
variable {v:Value} {w:World}
theorem write_fr{B d nb fb:Nat} {st:DS} (a:Wr) (hB:B<=w.heap.size) (h:Dsk B w d nb fb v st) (Jk:st.dead=false) (h1:1<=a.name.length) (h2:a.name.length<=24) (hl:a.at_<=st.limit) (hlim:st.limit<=16777216)
  (hn:st.acts.length<=1000) (ha:st.armed<=9223372036854775807) (hs:Short 100000000 st.now) (hd:a.data.length<=100000000) (hk:a.at_<=8192) (hks:a.at_<=((Fm.get st.now a.name).getD []).length) (hroom:tot st.now+(a.at_+a.data.length)<=st.limit):
  Calls prog 412 #[Qp d,a.name,.int .i64 (a.at_:Nat),a.data] w λe w'=>∃v',e=.returned (.int .i64 (if (writeSt st a).dead then 42 else 0))/\Dsk B w' d nb fb v' (writeSt st a)/\dm (KS d nb v) w w':=by
 suffices main:∀st',writeSt st a=st'->∀code:Int,code=(if st'.dead then 42 else 0)->Calls prog 412 #[Qp d,a.name,.int .i64 (a.at_:Nat),a.data] w λe w'=>∃v',e=.returned code/\Dsk B w' d nb fb v' st'/\dm (KS d nb v) w w' from main _ rfl _ rfl
 intro st' Qu code nA;have r8:=dL Qu;have Jd:=dL nA;clear Qu nA;have Z5:∀(fn:Fn) (first cap:Array Value) (w:World),(Instr.makeFunc fn first cap).run prog w=.ok (.func fn first cap) w:=λ_ _ _ _=>rfl
 obtain ⟨w1,hw1⟩:=dG (((w.alloc (.cells #[a.name] 9)).alloc (.cells #[.int .i64 (a.at_:Nat)] 3)).alloc (.cells #[a.data] 9));have dV:Below w w w1:=by rw [hw1];exact (((aC _ w).alloc (aB _) _).alloc (by simp) _).alloc (by simp;omega) _
 have g0:Blk w1 w 9 #[a.name]:=by rw [hw1];exact ((Blk.new w 9 _).alloc _).alloc _
 have g1:Blk w1 (w.heap.size+1) 3 #[.int .i64 (a.at_:Nat)]:=by
  have:=(Blk.new (w.alloc (.cells #[a.name] 9)) 3 #[.int .i64 (a.at_:Nat)]).alloc (.cells #[a.data] 9);rw [hw1];simpa using this
 have g2:Blk w1 (w.heap.size+1+1) 9 #[a.data]:=by
  have:=Blk.new ((w.alloc (.cells #[a.name] 9)).alloc (.cells #[.int .i64 (a.at_:Nat)] 3)) 9 #[a.data];rw [hw1];simpa using this
 have hh:=h.later dV;have q0:=g0.cell 0;have q1:=g1.cell 0;have q2:=g2.cell 0;simp at q0 q1 q2;obtain ⟨had,zc⟩:=dG ((Fm.get st.now a.name).getD []);have hle:had.length<=100000000:=by rw [zc];exact hs.get _
 have hlk:∀x:eE w1,(Instr.lookup 191 (.map (some nb)) (.string (bs a.name)) false).run prog x.wd=.ok (.string (bs had)) x.wd:=by
  rw [zc];exact λx=>(hh.now.below x.below).look underlying191 underlying9 uO a.name
 have k0:∀x:eE w1,x.wd.cell? w=a.name:=λx=>x.cell q0
 have k1:∀x:eE w1,x.wd.cell? ⟨w.heap.size+1,0,none⟩=some (.int .i64 (a.at_:Nat)):=λx=>x.cell q1
 have k2:∀x:eE w1,x.wd.cell? ⟨w.heap.size+1+1,0,none⟩=a.data:=λx=>x.cell q2
 have kd0:∀x:eE w1,x.wd.cell? d=some (.int .i64 (st.limit:Nat)):=λx=>x.cell (hh.blk.cell 0)
 have kd1:∀x:eE w1,x.wd.cell? (Qc d 1)=some (.map (some nb)):=λx=>x.cell (hh.blk.cell 1)
 have abR:=dL zc;clear zc;have hwr:=EC hh Jk a.name a.at_ h1 h2 hl;have HWR:=dL hwr;have HW:=dL hw1;have HH:=dL hh;have eR:=dL dV;have HS:=dL hs;have VO:=dL hks;clear hks;have G0:=dL g0;have G1:=dL g1;have G2:=dL g2;clear hwr hw1 hh dV h g0 g1 g2 hs Jk;go_enter func412,ntmps412;go_wp2_with fail;rw [<-HW.o];refine HWR.o.mono ?_;rintro e w' ⟨rfl,rfl⟩;go_wp2_with fail;refine eo (by kernel_rfl) (by kernel_rfl) ?_;repeat (go_big_quiet_step ((fail)))
 refine wpQuiet_nil ?_;rintro _ ⟨x,rfl⟩;go_wp2_with fail;have hHT:had.length<=tot st.now:=by rw [abR.o];exact xX _ _
 obtain ⟨T,hT⟩:=dG (tot st.now);obtain ⟨M,hM⟩:∃M:Nat,M=max had.length (a.at_+a.data.length):=⟨_,rfl⟩;have x1:max (had.length:Int) ((a.at_:Int)+(a.data.length:Int))=((M:Nat):Int):=by omega
 have x1':(if (had.length:Int) < (a.at_:Int)+(a.data.length:Int) then (a.at_:Int)+(a.data.length:Int) else (had.length:Int))=((M:Nat):Int):=by omega
 obtain ⟨X,hX⟩:∃X:Nat,X=T - had.length:=⟨_,rfl⟩;obtain ⟨Y,hY⟩:∃Y:Nat,Y=st.limit - M:=⟨_,rfl⟩;rw [<-hT] at hHT hroom;have x2:(T:Int) - (had.length:Int)=(X:Int):=by omega
 have x3:(st.limit:Int) - (M:Int)=(Y:Int):=by omega
 have x4:decide (Y < X)=false:=by simp;omega
 have x5:X<=16777216:=by omega
 have x6:Y<=16777216:=by omega
 obtain ⟨w2,eV⟩:=dG x.wd;have k1:∀y:eE w2,y.wd.cell? ⟨w.heap.size+1,0,none⟩=some (.int .i64 (a.at_:Nat)):=λy=>y.cell (by rw [eV];exact k1 x)
 have k2:∀y:eE w2,y.wd.cell? ⟨w.heap.size+1+1,0,none⟩=a.data:=λy=>y.cell (by rw [eV];exact k2 x)
 have kd0:∀y:eE w2,y.wd.cell? d=some (.int .i64 (st.limit:Nat)):=λy=>y.cell (by rw [eV];exact kd0 x)
 have h2':Dsk B w2 d nb fb v st:=by rw [eV];exact HH.o.later x.below
 have hsz:∀y:eE w2,Calls prog 419 #[Qp d] y.wd λe w'=>e=.returned (.int .i64 (T:Nat))/\Below y.wd y.wd w':=by
  intro y;have hy:=h2'.later y.below;rw [hT];exact NZ d nb _ st.now y.wd hy.blk rfl hy.now (by omega)
 have HSZ:=dL hsz;have G0:dK (Blk w2 w 9 #[a.name]):=dL (by rw [eV];exact G0.o.below x.below G0.o.lt);have G1:dK (Blk w2 (w.heap.size+1) 3 #[.int .i64 (a.at_:Nat)]):=dL (by rw [eV];exact G1.o.below x.below G1.o.lt);have G2:dK (Blk w2 (w.heap.size+1+1) 9 #[a.data]):=dL (by rw [eV];exact G2.o.below x.below G2.o.lt);have eR:dK (Below w w w2):=dL (by rw [eV];exact eR.o.trans (x.below.mono eR.o.size));have H2:=dL h2';rw [<-eV];clear eV h2' hsz hX hY hM hT hHT hroom hlk HH abR hle q0 q1 q2 h1 h2 hl;refine eo (by kernel_rfl) (by kernel_rfl) ?_;repeat (go_big_quiet_step ((go_at_call 419;exact gX (HSZ.o _))))
 refine wpQuiet_nil ?_;rintro _ ⟨y,rfl⟩;go_wp2_with fail;have hy:=H2.o.later y.below;have hdo:=Sh (aI hB (aI eR.o.size y.below.size)) hy (a:=a) ⟨_,_,_,rfl,G2.o.below y.below G2.o.lt,G0.o.below y.below G0.o.lt,G1.o.below y.below G1.o.lt⟩ hn ha HS.o hd hk VO.o;rw [r8.o,<-Jd.o] at hdo;refine hdo.mono ?_;rintro e w3 ⟨v',rfl,h3,dn⟩;have H3:=dL h3;have eC:=dL (eF (eO (S:=KS d nb v) (eR.o.trans (y.below.mono eR.o.size))) dn (λ_ _ h=>h));clear hdo h3 dn hy;go_wp2_with fail;go_ret;exact ⟨v',rfl,H3.o,eC.o⟩
theorem read_any{B d nb fb:Nat} {st:DS} (h:Dsk B w d nb fb v st) (Jk:st.dead=false) (name:Bytes) (h1:1<=name.length) (h2:name.length<=24):
  Calls prog 305 #[Qp d,name] w λe w'=>e=.returned (.tuple #[.string (bs ((Fm.get st.now name).getD [])),.int .i64 (if (Fm.get st.now name).isSome then 0 else 25)])/\w=w':=by
 have hwr:=EC h Jk name 0 h1 h2 (aS _);have hl:=h.now.look2 underlying191 underlying9 uO name;have kd1:w.cell? (Qc d 1)=some (.map (some nb)):=h.blk.cell 1;obtain ⟨x,hx⟩:=dG ((Fm.get st.now name).getD []);have hz:(Fm.get st.now name).isSome=false->x=[]:=by
  rw [hx];cases Fm.get st.now name with
  |none=>exact λ_=>rfl
  |some _=>intro e;cases e
 rw [<-hx] at hl ⊢;obtain ⟨code,nA⟩:∃code:Int,code=if (Fm.get st.now name).isSome then 0 else 25:=⟨_,rfl⟩
 rw [<-nA];cases hb:(Fm.get st.now name).isSome with
 |false=>
  rw [hb] at hl;have hx0:=hz hb;have e2:code=if (Fm.get st.now name).isSome then 0 else 25:=nA
  rw [hb] at e2;simp at e2;have HWR:=dL hwr;clear hx h hz hb hwr nA;go_enter func305,ntmps305;go_wp2_with fail;refine HWR.o.mono ?_;rintro e w' ⟨rfl,rfl⟩;go_wp2_with fail;go_wp2_with fail;go_ret2;exact ⟨by rw [hx0,e2];rfl,rfl⟩
 |true=>
  rw [hb] at hl;have e2:code=if (Fm.get st.now name).isSome then 0 else 25:=nA
  rw [hb] at e2;simp at e2;have HWR:=dL hwr;clear hx h hz hb hwr nA;go_enter func305,ntmps305;go_wp2_with fail;refine HWR.o.mono ?_;rintro e w' ⟨rfl,rfl⟩;go_wp2_with fail;go_wp2_with fail;go_ret2;exact ⟨by rw [e2];rfl,rfl⟩
end Dk
namespace Dk
open Go.RowKit Fm
attribute [local go_sem] dR dO dS dP
variable {v:Value} {w:World}
theorem dead_any{B d nb fb:Nat} {st:DS} (h:Dsk B w d nb fb v st):
  Calls prog 302 #[Qp d] w λe w'=>e=.returned st.dead/\w=w':=by
 have q5:w.cell? (Qc d 5)=st.dead:=h.blk.cell 5;obtain ⟨b,hb⟩:=dG st.dead;rw [<-hb] at q5 ⊢;clear h hb;go_enter func302,ntmps302;go_wp2_with fail;go_ret;exact ⟨rfl,rfl⟩
theorem EE {st:DS} (h:st.armed=0):diesSt st=st:=by unfold diesSt;rw [if_neg (by omega)]
theorem sync_any{B d nb fb:Nat} {st:DS} (h:Dsk B w d nb fb v st) (hd:st.dead=false) (ha:st.armed=0):
  Calls prog 307 #[Qp d] w λe w'=>∃qa,e=.returned qn/\Dsk B w' d nb qa (.slice none 0 0) { st with firm:=st.now,acts:=[] }/\dm (KS d nb v) w w'/\w.heap.size<=qa:=by
 have q5:w.cell? (Qc d 5)=false:=by rw [<-hd];exact h.blk.cell 5
 have hdies:=ED h (by rw [ha];decide);rw [EE ha,hd] at hdies;have HD:=dL hdies;clear hdies hd h;go_enter func307,ntmps307;go_wp2_with fail;refine HD.o.mono ?_;rintro e w1 ⟨rfl,h1,hg1⟩;have r1:w1.cell? (Qc d 1)=some (.map (some nb)):=h1.blk.cell 1;obtain ⟨w2,eV⟩:=dG (w1.alloc (uy st.now));have dY:Below w1 w1 w2:=by rw [eV];exact (aC _ _).alloc (aB _) _
 have Hx:Fs w2 w1 st.now:=by rw [eV];exact heap_alloc_new w1 _
 have hcl:=j9 nb st.now w1 h1.now;rw [<-eV] at hcl;have h2:=h1.later dY;have s2:=h2.blk.cell 2;have s3:=h2.blk.cell 3;have z2:=h2.blk.frozen 2;have z3:=h2.blk.frozen 3;simp at s2 s3;have b3:=h2.blk.set_ 2 (.map (some w1.heap.size));have b4:=b3.set_ 3 (.slice none 0 0);have t3:=b3.cell 3;have u3:=b3.frozen 3;simp at t3;have hg4:w2.grownBy ((w2.setCell (Qc d 2) (.map (some w1.heap.size))).setCell (Qc d 3) ()) (some d):=dh (dh (dz w2 _) (p:=Qc d 2) (.inl rfl) _) (p:=Qc d 3) (.inl rfl) _;have hlt:=h1.blk.lt;have hnlt:=h1.now.lt;have h4:Dsk B ((w2.setCell (Qc d 2) (.map (some w1.heap.size))).setCell (Qc d 3) ()) d nb w1 (.slice none 0 0) { st with firm:=st.now,acts:=[] }:=
  ⟨b4,h2.now.grown hg4 (λe=>h2.now.ne_blk h2.blk (by cases e;rfl)),Hx.grown hg4 (λe=>Hx.ne_blk h2.blk (by cases e;rfl)),by omega,Rowed.nil_ _ _⟩
 have H4:=dL h4;have fI:dK (dm (KS d nb v) w ((w2.setCell (Qc d 2) (.map (some w1.heap.size))).setCell (Qc d 3) ())):=dL (eF (gj (ek (S:=KS d nb v) hg1 (λi e=>.inl (by cases e;rfl))) dY) (ek (S:=KS d nb v) hg4 (λi e=>.inl (by cases e;rfl))) (λ_ _ h=>h));have HSZ:=dL hg1.size;have yb:=dL hcl;clear h4 hg4 b4 b3 h2 h1 hg1 hcl Hx dY eV hlt hnlt;go_wp2_with (go_at_call 211;refine yb.o.mono ?_;rintro e w' ⟨rfl,hw'⟩;rw [hw'];clear hw')
 go_ret;exact ⟨_,rfl,H4.o,fI.o,HSZ.o⟩
end Dk
end Go.Proofs.YtgdaahffmcfhpaaGreatDoor
