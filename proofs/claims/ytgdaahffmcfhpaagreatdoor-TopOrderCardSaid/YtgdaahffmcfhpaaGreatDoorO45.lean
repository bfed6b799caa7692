/- Lemmas on the way: ZB ZC ZC2 ZC3 ZK ZL ZL2 ZM. -/
import Derived.Test.YtgdaahffmcfhpaaGreatDoorO17
set_option linter.unusedVariables false
set_option maxRecDepth 100000
set_option maxHeartbeats 8000000
namespace Go.Proofs.YtgdaahffmcfhpaaGreatDoor
open aA
open Tryz
namespace Nt
open Go.RowKit
attribute [local go_sem] dR dO dS dP
theorem BM:(prog.info? 146).map (λi=>(i.zero,i.size,i.bytes))=some (some (.agg #[qn,qn,yj]),3,32):=by kernel_rfl
theorem new_ok (d:Int) (h1:1<=d) (h2:d<=15) (w:World):
  Calls prog 65 #[d] w λe w'=>∃gN,e=.returned (.tuple #[.pointer (some ⟨gN,0,none⟩),qn])/\NetI w' gN d 0 (.slice none 0 0) []/\Below w w w'/\w.heap.size<=gN:=by
 have uf:decide (d < 1)=false:=decide_eq_false (by omega);have hd2:decide (d > 15)=false:=decide_eq_false (by omega);go_enter func65,ntmps65;go_wp2_with fail;refine bodyPost_ret (v:=.tuple #[Qp w,qn]) (by simp [results,results65,go_sem]) rfl ?_;refine ⟨_,rfl,⟨Blk.new _ _ _,⟨by simp [pcs],.inl ⟨rfl,rfl⟩⟩,by simp [Value.ownBlock]⟩,(aC _ w).alloc (aB _) _,aB _⟩
theorem kj (gN:Nat) (d k:Int) (w:World) (hc:w.cell? gN=d) (r:Bool) (hr:decide (0<=k/\k < d)=r):
  Calls prog 121 #[Qp gN,k] w λe w'=>e=.returned r/\w=w':=by
 subst hr;by_cases h:0<=k
 ·have h1:decide (k≥0)=true:=decide_eq_true h
  have h2:decide (0<=k/\k < d)=decide (k < d):=by simp [h]
  rw [h2];clear h2;go_enter func121,ntmps121;go_wp2_with fail;go_ret;exact ⟨rfl,rfl⟩
 ·have h1:decide (k≥0)=false:=decide_eq_false h
  have h2:decide (0<=k/\k < d)=false:=by simp [h]
  rw [h2];clear h2;go_enter func121,ntmps121;go_wp2_with fail;go_ret;exact ⟨rfl,rfl⟩
theorem Wz (gN:Nat) (s:Int) (h0:0<=s) (h1:s<=1000000) (w:World) (hc:w.cell? (Qc gN 2)=s) (hz:w.frozen? ⟨gN,2,none⟩=false):
  Calls prog 123 #[.pointer (some ⟨gN,2,none⟩),yh] w λe w'=>e=.returned (.int .i64 (s+1))/\w'=w.setCell (Qc gN 2) (.int .i64 (s+1)):=by
 have acz:(Op.intArith .add .i64 s 1).run prog w=.ok (.int .i64 (s+1)) w:=by
  have e:IntKind.i64.wrap (s+1)=s+1:=by simp [IntKind.wrap,show IntKind.i64.bits=64 from rfl,show IntKind.i64.signed=true from rfl];omega
  simp [go_sem,e]
 have kL:=run_call_add (P:=prog) func189 (by kernel_rfl) (by kernel_rfl) (by kernel_rfl) .i64 (by kernel_rfl) (y:=1) (s:=s+1) hc hz acz;go_enter func123,ntmps123;go_wp2_with fail;go_ret;exact ⟨rfl,rfl⟩
theorem len_is (gN:Nat) (d s:Int) (v:Value) (ps:List Pk) (w:World) (hN:NetI w gN d s v ps):
  Calls prog 136 #[Qp gN] w λe w'=>e=.returned ps.length/\w=w':=by
 have hc:=hN.c1;obtain ⟨A,c,rfl⟩:=hN.slice;go_enter func136,ntmps136;go_wp2_with fail;go_ret;exact ⟨rfl,rfl⟩
theorem PT (gN:Nat) (d s:Int) (v:Value) (ps:List Pk) (x:Pk) (w:World) (hN:NetI w gN d s v ps) (hf:500<=ps.length) (hm:ps.length<=1000000):
  Calls prog 122 #[Qp gN,pv x] w (dM w (.int .i64 41)):=by
 have hc:=hN.c1;have hl:=hN.lt;obtain ⟨A,c,rfl⟩:=hN.slice;have hd:decide ((ps.length:Int)≥500)=true:=decide_eq_true (by omega);unfold pv;go_enter func122,ntmps122;go_wp2_with fail;go_ret;exact ⟨rfl,(aC _ w).alloc (aB _) _⟩
variable {w:World}
theorem cell?_alloc_old {g i:Nat} {u:Value} (h:w.cell? (Qc g i)=some u) (o:Obj):(w.alloc o).cell? (Qc g i)=some u:=by
 rw [dB _ _ _ (eB h)];exact h
theorem LY {g i:Nat} (h:w.frozen? ⟨g,i,none⟩=false) (hg:g < w.heap.size) (o:Obj):(w.alloc o).frozen? ⟨g,i,none⟩=false:=by
 rw [World.frozen?_alloc_past _ _ _ hg];exact h
theorem BT (gN:Nat) (d s:Int) (v:Value) (ps:List Pk) (x:Pk) (w:World) (hN:NetI w gN d s v ps) (hf:ps.length < 500):
  Calls prog 122 #[Qp gN,pv x] w λe w'=>∃v',e=.returned qn/\NetI w' gN d s v' (ps++[x])/\dm (NS gN v) w w'/\(v'.ownBlock=v.ownBlock\/∃g,v'.ownBlock=some g/\w.heap.size<=g):=by
 obtain ⟨i0,gV,hz0,hz1,hz2⟩:=info_parts BM;have hc:=hN.c1;have hl:=hN.lt;have UP:=hN.far;have Y5:=hN.blk.frozen 1;obtain ⟨A,c,hv⟩:=hN.slice;have hd:decide ((ps.length:Int)≥500)=false:=decide_eq_false (by omega);obtain ⟨w1,hw1⟩:=dG (w.alloc (.cells #[x.f,x.t,x.d] 146));have hB:Blk w1 w 146 #[x.f,x.t,x.d]:=by rw [hw1];exact Blk.new _ _ _
 have hN1:NetI w1 gN d s v ps:=by rw [hw1];exact hN.below ((aC _ w).alloc (aB _) _)
 have dV:Below w w w1:=by rw [hw1];exact (aC _ w).alloc (aB _) _
 have hs1:w1.heap.size<=w.heap.size+1:=by rw [hw1];simp
 have hs2:w.heap.size+1<=w1.heap.size:=by rw [hw1];simp
 have hc1:=hN1.c1;have hown:=hN1.own;have Cp:=hN1.blk.frozen 1;have e0:=hB.cell 0;have e1:=hB.cell 1;have e2:=hB.cell 2;simp only [aO,aT,aZ] at e0 e1 e2;have hvB:v.ownBlock≠some w.heap.size:=λh=>by have:=own_lt hN.own h;omega
 have hgB:gN≠w.heap.size:=by omega
 have dy:∀w2 g cap,w2.ownsRow 0 146 3 (.slice (some ⟨g,0,none⟩) (ps.length+1) cap) (ps.length+1) (pcs ps++[.int .i64 x.f,.int .i64 x.t,.string (bs x.d)])->(w1.alloc (.cells #[x.f,x.t,x.d] 146)).drew.grownBy w2 v.ownBlock->(v.ownBlock=some g\/g=w1.heap.size+1)->
   ∃v',Ending.returned qn=.returned qn/\NetI (w2.setCell (Qc gN 1) (.slice (some ⟨g,0,none⟩) (ps.length+1) cap)) gN d s v' (ps++[x])/\dm (NS gN v) w (w2.setCell (Qc gN 1) (.slice (some ⟨g,0,none⟩) (ps.length+1) cap))/\(v'.ownBlock=v.ownBlock\/∃g,v'.ownBlock=some g/\w.heap.size<=g):=by
  intro w2 g cap ho hg fR;have hk1:dm (NS gN v) w w2:=eF (eO ((dV.alloc (by omega) _).drew)) (ek (S:=NS gN v) hg (λi h=>Or.inr h)) (λ_ _ h=>h);have hk2:=dw hk1 ⟨gN,1,none⟩ (.slice (some ⟨g,0,none⟩) (ps.length+1) cap) (λ_=>Or.inl rfl);have hgg:g≠gN:=by
   rcases fR with h|h
   ·rintro rfl;exact UP h
   ·omega
  have hblk:Blk w2 gN 190 #[d,v,s]:=Blk.grown (Blk.drew (Blk.alloc hN1.blk _)) hg (λh=>UP h.symm);have gw:=Blk.set_ hblk 1 (.slice (some ⟨g,0,none⟩) (ps.length+1) cap);refine ⟨_,rfl,⟨gw,?_,by simpa [Value.ownBlock] using hgg⟩,hk2,?_⟩
  ·have:=tG (w':=w2.setCell (Qc gN 1) (.slice (some ⟨g,0,none⟩) (ps.length+1) cap)) ho (dw (eT (λi=>i=gN) w2) _ _ (λ_=>rfl)) (λg' h=>by simp [Value.ownBlock] at h;omega)
   rw [nS,show pcs [x]=[.int .i64 x.f,.int .i64 x.t,.string (bs x.d)] from by simp [pcs,pc]];simpa using this
  ·rcases fR with h|h
   ·left;rw [h];rfl
   ·right;exact ⟨g,rfl,by omega⟩
 have HF:=dL dy;have HW:=dL hw1;have HV:=dL hv;rw [hv] at hc hc1;clear hN hN1 dy hv dV hB hw1;unfold pv;go_enter func122,ntmps122;go_wp2_with fail;rw [<-HW.o];have ha1:=cell?_alloc_old hc1 (.cells #[x.f,x.t,x.d] 146);go_region_law (refine step_append_lies _ (by rfl) _ _ _ (by rfl) 0 146 i0 _ 3 32 underlying183 gV hz0 hz1 hz2 rfl (by omega) v ps.length (pcs ps) (by first|rfl|exact HV.o.symm) ((hown.alloc _).drew) ⟨w1.heap.size,0,none⟩ 1 1 [.int .i64 x.f,.int .i64 x.t,.string (bs x.d)] (by rfl) (by rfl) (World.news_of_block (cs:=#[.int .i64 x.f,.int .i64 x.t,.string (bs x.d)]) (t:=146) (fr:=(0,0)) (heap_alloc_new w1 _)) (by simp [Value.oneCell']) (by omega) (by simp [maxLen];omega) (by omega) (by omega) (w1.heap.size+1) (by simp) ?_;intro gg cap w2 adz hgrow fR hlt;have hc2:w2.cell? (Qc gN 1)=Qq A ps.length c:=(by rw [hgrow.cell_far _ (by simp;omega) (Ne.symm UP)];exact cell?_alloc_old hc1 _);have hz2:w2.frozen? ⟨gN,1,none⟩=false:=(by rw [hgrow.frozen_far _ (by simp;omega) (Ne.symm UP)];exact LY Cp (by omega) _))
 all_goals (go_wp2_with fail;go_ret;obtain ⟨v',_,h⟩:=HF.o _ _ _ adz hgrow fR;exact ⟨v',rfl,h⟩)
theorem send_rest (gN:Nat) (d s:Int) (v:Value) (ps:List Pk) (x:Pk) (w:World) (hN:NetI w gN d s v ps) (hf:0<=x.f/\x.f < d) (ht:0<=x.t/\x.t < d) (hne:x.f≠x.t)
  (hs0:0<=s) (hs1:s<=1000000) (hm:ps.length<=1000000) (hx:x.d.length<=9223372036854775807):
  Calls prog 76 #[Qp gN,pv x] w λe w'=>∃v',e=.returned (.int .i64 (if x.d.length > 60000 then 40 else if 500<=ps.length then 41 else 0))/\
   NetI w' gN d (if x.d.length > 60000\/500<=ps.length then s else s+1) v' (if x.d.length > 60000\/500<=ps.length then ps else ps++[x])/\dm (NS gN v) w w'/\(v'.ownBlock=v.ownBlock\/∃g,v'.ownBlock=some g/\w.heap.size<=g):=by
 have hnot:∀(x:Bool) (w:World),(Op.unary .not (.bool x)).run prog w=.ok (.bool (!x)) w:=λ_ _=>rfl
 obtain ⟨w1,hw1⟩:=dG (w.alloc (.cells #[x.f,x.t,x.d] 146));have hB:Blk w1 w 146 #[x.f,x.t,x.d]:=by rw [hw1];exact Blk.new _ _ _
 have dV:Below w w w1:=by rw [hw1];exact (aC _ w).alloc (aB _) _
 have hN1:NetI w1 gN d s v ps:=hN.below dV;have hc:=hN1.c0;have e0:=hB.cell 0;have e1:=hB.cell 1;have e2:=hB.cell 2;simp only [aO,aT,aZ] at e0 e1 e2;have HW:=dL hw1;have uA:=dL hN1;have eR:=dL dV;have hq:(x.f ==x.t)=false:=by simp [hne]
 have qY:=hN.lt;clear hw1 hB hN hN1 dV hne;by_cases hl:x.d.length > 60000
 ·have hd:decide ((x.d.length:Int) > 60000)=true:=decide_eq_true (by omega)
  simp only [hl,if_true,true_or];unfold pv;go_enter func76,ntmps76;go_wp2_with fail;rw [<-HW.o];refine (kj gN d x.f _ hc true (decide_eq_true hf)).mono ?_;rintro e w' ⟨rfl,rfl⟩;go_wp2_with fail;refine (kj gN d x.t _ hc true (decide_eq_true ht)).mono ?_;rintro e w' ⟨rfl,rfl⟩;go_wp2_with fail;go_ret;exact ⟨v,rfl,uA.o,eO eR.o,Or.inl rfl⟩
 ·have hd:decide ((x.d.length:Int) > 60000)=false:=decide_eq_false (by omega)
  simp only [hl,if_false,false_or];by_cases hfull:500<=ps.length
  ·simp only [hfull,if_true]
   unfold pv;go_enter func76,ntmps76;go_wp2_with fail;rw [<-HW.o];refine (kj gN d x.f _ hc true (decide_eq_true hf)).mono ?_;rintro e w' ⟨rfl,rfl⟩;go_wp2_with fail;refine (kj gN d x.t _ hc true (decide_eq_true ht)).mono ?_;rintro e w' ⟨rfl,rfl⟩;go_wp2_with fail;refine (PT gN d s v ps x _ uA.o hfull hm).mono ?_;rintro e w2 ⟨rfl,dY⟩;have F5:=uA.o.below dY;have hb:=eR.o.trans (dY.mono eR.o.size);go_wp2_with fail;go_ret;exact ⟨v,rfl,F5,eO hb,Or.inl rfl⟩
  ·simp only [hfull,if_false]
   unfold pv;go_enter func76,ntmps76;go_wp2_with fail;rw [<-HW.o];refine (kj gN d x.f _ hc true (decide_eq_true hf)).mono ?_;rintro e w' ⟨rfl,rfl⟩;go_wp2_with fail;refine (kj gN d x.t _ hc true (decide_eq_true ht)).mono ?_;rintro e w' ⟨rfl,rfl⟩;go_wp2_with fail;refine (BT gN d s v ps x _ uA.o (by omega)).mono ?_;rintro e w2 ⟨v',rfl,F5,hk2,YT⟩;have hk:=eF (eO (S:=NS gN v) eR.o) hk2 (λ_ _ h=>h);have hs':=eR.o.size;have kL:=Wz gN s hs0 hs1 _ F5.c2 (F5.blk.frozen 2);have yO:NetI (w2.setCell (Qc gN 2) (.int .i64 (s+1))) gN d (s+1) v' (ps++[x]):=⟨Blk.set_ F5.blk 2 _,tG F5.own (dw (eT (λi=>i=gN) w2) _ _ (λ_=>rfl)) (λg hg h=>F5.far (by rw [hg,h])),F5.far⟩;have oD:=dw hk ⟨gN,2,none⟩ (.int .i64 (s+1)) (λ_=>Or.inl rfl);have UC:=dL yO;clear F5 yO;go_wp2_with fail;refine kL.mono ?_;rintro e w3 ⟨rfl,rfl⟩;go_wp2_with fail;go_ret;refine ⟨v',rfl,UC.o,oD,?_⟩;rcases YT with h| ⟨g,h,hg⟩
   ·exact Or.inl h
   ·exact Or.inr ⟨g,h,by omega⟩
end Nt
namespace Nt
open Go.RowKit
attribute [local go_sem] dR dO dS dP
theorem at_ok (gN:Nat) (d s:Int) (v:Value) (ps:List Pk) (k:Nat) (w:World) (hN:NetI w gN d s v ps) (hk:k < ps.length) (hm:ps.length<=1000000):
  Calls prog 200 #[Qp gN,k] w (dM w (.tuple #[pv ps[k],qn])):=by
 have hl:=hN.lt;have hc:=hN.c1;obtain ⟨g,cap,rfl,hgN,qY,e0,e1,e2⟩:=hN.at hk;have h1:decide ((k:Int) < 0)=false:=decide_eq_false (by omega);have h2:decide ((k:Int)≥ps.length)=false:=decide_eq_false (by omega);generalize ps[k]=x at*;clear hN;unfold pv;go_enter func200,ntmps200;go_wp2_with fail;refine bodyPost_ret (v:=.tuple #[.agg #[x.f,x.t,x.d],qn]) (by simp [results,results200,go_sem]) rfl ?_;exact ⟨rfl,(aC _ w).alloc (aB _) _⟩
theorem jR {g:Nat} {t:TypeId}:∀(vs:List Value) (o:Nat) (w:World) (cur:Array Value),Blk w g t cur->o+vs.length<=cur.size->
  ∃cur',Blk (w.setCells g o vs) g t cur'/\cur'.size=cur.size/\∀i,cur'[i]? =if o<=i/\i < o+vs.length then vs[i - o]? else cur[i]?
 | [],o,w,cur,h,_=> ⟨cur,h,rfl,λi=>by rw [if_neg (by simp)]⟩
 |v :: r,o,w,cur,h,hl=>by
  have h1:=Blk.set_ h o v;obtain ⟨cur',h2,hs,hc⟩:=jR r (o+1) _ _ h1 (by simp at hl ⊢;omega);refine ⟨cur',h2,by simpa using hs,λi=>?_⟩;rw [hc i];simp only [aY] at hl ⊢;by_cases e:i=o
  ·subst e
   rw [if_neg (by omega),if_pos (by omega),dD];simp;omega
  ·rw [dD,if_neg (λh:o=i=>e h.symm)]
   by_cases hr:o+1<=i/\i < o+1+r.length
   ·rw [if_pos hr,if_pos (by omega),show i - o=(i - (o+1))+1 from by omega,aZ]
   ·rw [if_neg hr,if_neg (by omega)]
theorem kD {g:Nat} {a:World}:∀(vs:List Value) (o:Nat) (w:World),a.grownBy w (some g)->a.grownBy (w.setCells g o vs) (some g)
 | [],_,_,h=>h
 |v :: r,o,w,h=>kD r (o+1) _ (dh h (p:=Qc g o) (Or.inl rfl) v)
theorem lU {P:Program} (w:World) (t e ty:TypeId) (z:Value) (size:Nat) (ht:P.underlying t=some (.slice e)) (hv:∀w,(zeroValue e).run P w=.ok z w) (hzs:z.cells.size=size) (h1:∀n,∀u∈(Builtin.zeroCells z.cells n).toList,u.oneCell'=true) (b o n c:Nat) (hn:0 < n)
  (hc:∀j,j < n*size->(w.cell? ⟨b,o+j,none⟩).isSome=true) (hf:∀j,j < n*size->w.frozen? ⟨b,o+j,none⟩=false):
  (Builtin.clear_ #[t] ty #[.slice (some ⟨b,o,none⟩) n c]).run P w=.ok (.tuple #[]) (w.setCells b o (Builtin.zeroCells z.cells n).toList):=by
 have hlen:(Builtin.zeroCells z.cells n).toList.length=n*size:=by rw [cC,size_zeroCells,hzs]
 have hst:=run_storeCells_cells (P:=P) b o (Builtin.zeroCells z.cells n).toList 0 w (by rw [hlen];simpa using hc) (by rw [hlen];simpa using hf) (h1 n);simp only [bZ] at hst;obtain ⟨m,rfl⟩:∃m,n=m+1:=⟨n - 1,by omega⟩;simp [Builtin.clear_,run_underlying ht,hv,hst]
def MR:Value:=.agg #[qn,qn,yj]
theorem Gr (w:World):(zeroValue 146).run prog w=.ok MR w:=by kernel_rfl
theorem PU:∀n,∀u∈(Builtin.zeroCells MR.cells n).toList,u.oneCell'=true:=by
 intro n u hu;simp only [Builtin.zeroCells,MR,Value.cells,Array.toList_map,aU] at hu;obtain ⟨i,_,rfl⟩:=hu;have:i % 3=0\/i % 3=1\/i % 3=2:=by omega
 rcases this with h|h|h <;> simp [h,Value.oneCell']
end Nt
namespace Nt
open Go.RowKit
attribute [local go_sem] dR dO dS dP
theorem Az (cur IT zm:Array Value) (ps:List Pk) (k m:Nat) (news zs:List Value) (hnn:pcs (ps.drop (k+1))=news) (htk:cur.toList.take (ps.length*3)=pcs ps)
  (hc1:∀i,IT[i]? =if k*3<=i/\i < k*3+news.length then news[i - k*3]? else cur[i]?)
  (hc2:∀i,zm[i]? =if m*3<=i/\i < m*3+zs.length then zs[i - m*3]? else IT[i]?) (hm:m+1=ps.length) (hk:k < ps.length):
  zm.toList.take ((ps.length - 1)*3)=pcs (ps.eraseIdx k):=by
 have hnl:news.length=(ps.length - (k+1))*3:=by rw [<-hnn,kT];simp
 have htl:(pcs (ps.take k)).length=k*3:=by rw [kT,aR];congr 1;omega
 rw [List.eraseIdx_eq_take_drop_succ,nS,hnn];apply List.ext_getElem?;intro i;rcases aD i ((ps.length - 1)*3) with hi|hi
 ·rw [bf hi,cN,hc2,if_neg (by omega),hc1]
  by_cases h:k*3<=i
  ·rw [if_pos (by omega),bt (by omega),htl]
  ·rw [if_neg (by omega),bY (by omega),<-DZ,bf (by omega),<-htk,bf (by omega),cN]
 ·rw [bD (by simp;omega),bD (by simp;omega)]
theorem Gs (g cap:Nat) (cur:Array Value) (ps:List Pk) (k:Nat) (w:World) (hB:Blk w g 146 cur) (hsz:cur.size=cap*3) (hle:ps.length<=cap) (lg:cap<=9223372036854775807) (htk:cur.toList.take (ps.length*3)=pcs ps) (hk:k < ps.length) (hm:ps.length<=1000000):
  Calls prog 201 #[Qs g ps.length cap,k,.int .i64 ((k:Int)+1)] w λe w'=>e=.returned (Qs g (ps.length - 1) cap)/\w'.ownsRow 0 146 3 (.slice (some g) (ps.length - 1) cap) (ps.length - 1) (pcs (ps.eraseIdx k))/\w.grownBy w' (some g):=by
 have hg:=hB.lt;obtain ⟨i0,gV,hz0,hz1,hz2⟩:=info_parts BM;have hcell:∀i,w.drew.cell? ⟨g,i,none⟩=cur[i]?:=λi=>hB.cell i
 have Y5:∀i,w.drew.frozen? ⟨g,i,none⟩=false:=λi=>hB.frozen i
 have hk1:k<=cap:=by omega
 have hk2:k+1<=ps.length:=by omega
 have oD:k+1<=cap:=by omega
 have hkq:((k:Int) ==(k:Int)+1)=false:=beq_eq_false_iff_ne.2 (by omega);have kL:∀o j,(Addr.mk g o none).add j= ⟨g,o+j,none⟩:=λo j=>by unfold Addr.add;split <;> simp_all
 have hnews:(pcs (ps.drop (k+1))).length=(ps.length - (k+1))*3:=by rw [kT];simp
 have fR:∀j u,(pcs (ps.drop (k+1)))[j]? =some u->w.drew.cell? ((Addr.mk g ((k+1)*3) none).add j)=some u:=λj u hu=>by
  rw [kL,hcell,<-hu];have hj:j < (ps.length - (k+1))*3:=by
   rcases aD j ((ps.length - (k+1))*3) with h|h
   ·exact h
   ·rw [bD (by rw [hnews];exact h)] at hu;cases hu
  have h1:pcs ps=pcs (ps.take (k+1))++pcs (ps.drop (k+1)):=by rw [<-nS,bV]
  have h2:(pcs (ps.take (k+1))).length=(k+1)*3:=by rw [kT,aR];congr 1;omega
  rw [<-cN,<-bf (j:=ps.length*3) (by omega),htk,h1,bt (by omega),h2];congr 1;omega
 have hone:∀u∈pcs (ps.drop (k+1)),u.oneCell'=true:=λu hu=>by
  simp only [pcs,List.mem_flatMap] at hu;obtain ⟨x,_,hu⟩:=hu;simp only [pc,aQ,bH,or_false] at hu;rcases hu with rfl|rfl|rfl <;> rfl
 have hspare:∀j,j < (pcs (ps.drop (k+1))).length->(w.drew.cell? ⟨g,0+k*3+j,none⟩).isSome=true/\w.drew.frozen? ⟨g,0+k*3+j,none⟩=false:=λj hj=>by
  rw [hnews] at hj;rw [hcell];refine ⟨?_,Y5 _⟩;rw [cG (by omega)];rfl
 have hnil:cap=k+1->∀j u,(pcs (ps.drop (k+1)))[j]? =some u->w.drew.cell? ((Addr.mk g 0 none).add j)=some u:=λh j u hu=>by
  rw [cw (by omega)] at hu;simp [pcs] at hu
 obtain ⟨IT,gH,hs1,hc1⟩:=jR (pcs (ps.drop (k+1))) (k*3) w.drew cur hB (by rw [hnews];omega);have hg1:w.grownBy (w.drew.setCells g (k*3) (pcs (ps.drop (k+1)))) (some g):=kD _ _ _ (kQ (dz w _));have QK:=dL hnews;have QW:=dL fR;have acA:=dL hone;have HSp:=dL hspare;have acB:=dL hnil;have Ht:=dL hc1;have tq:=dL hg1;have ug:=dL htk;have eR:=dL gH;have rJ:=dL hs1;clear hcell Y5 fR kL hone hspare hnil hnews hc1 hg1 htk gH hs1 hB;generalize hnn:pcs (ps.drop (k+1))=news at*;have HNn:=dL hnn;clear hnn;have hi1:(0:Int)<=(k:Int)+1:=by omega
 have hi2:(k:Int)+1<=(ps.length:Int):=by omega
 have Qk:(k:Int)<=(k:Int)+1:=by omega
 by_cases hcap:cap=k+1
 ·have HNl:=dL (acB.o hcap)
  clear acB;go_enter func201,ntmps201;go_wp2_with fail;go_region_law (refine step_append_room (by rfl) _ _ _ (by rfl) 146 i0 3 underlying183 gV hz1 g 0 k (k+1) (by rfl) ⟨g,0,none⟩ (ps.length - (k+1)) 0 news (by rfl) QK.o HNl.o acA.o (by omega) HSp.o ?_)
  obtain ⟨m,hmm⟩:∃m,k+(ps.length - (k+1))=m:=⟨_,rfl⟩;rw [hmm];have yu:m < ps.length:=by omega
  have hm2:ps.length<=m+1:=by omega
  have acC:=lU (P:=prog) (w.drew.setCells g (k*3) news) 183 146 0 MR 3 underlying183 Gr rfl PU g (m*3) (ps.length - m) (k+1 - m) (by omega)
   (λj hj=>by rw [eR.o.cell,cG (by rw [rJ.o];omega)];rfl) (λj _=>eR.o.frozen _)
  have hzl:(Builtin.zeroCells MR.cells (ps.length - m)).toList.length=(ps.length - m)*3:=by rw [cC,size_zeroCells];rfl
  generalize (Builtin.zeroCells MR.cells (ps.length - m)).toList=zs at*;have HZl:=dL hzl;clear hzl hmm;generalize w.drew.setCells g (k*3) news=w2 at*;go_wp2_with fail;obtain ⟨zm,fD,hs2,hc2⟩:=jR zs (m*3) w2 IT eR.o (by rw [HZl.o,rJ.o];omega);rw [hcap];refine bodyPost_ret (v:=.slice (some g) m (k+1)) (by simp [results,results201,go_sem]) rfl ⟨by rw [show m=ps.length - 1 from by omega],⟨by rw [kT,List.length_eraseIdx_of_lt hk],.inr ⟨g,k+1,zm,rfl,aS _,fD,by omega,by unfold maxLen;omega,by rw [hs2,rJ.o];omega,?_⟩⟩,kD _ _ _ tq.o⟩;exact Az cur IT zm ps k m news zs HNn.o ug.o Ht.o hc2 (by omega) hk
 ·go_enter func201,ntmps201
  go_wp2_with fail;go_region_law (refine step_append_room (by rfl) _ _ _ (by rfl) 146 i0 3 underlying183 gV hz1 g 0 k cap (by rfl) ⟨g,(k+1)*3,none⟩ (ps.length - (k+1)) (cap - (k+1)) news (by rfl) QK.o QW.o acA.o (by omega) HSp.o ?_)
  obtain ⟨m,hmm⟩:∃m,k+(ps.length - (k+1))=m:=⟨_,rfl⟩;rw [hmm];have yu:m < ps.length:=by omega
  have hm2:ps.length<=m+1:=by omega
  have acC:=lU (P:=prog) (w.drew.setCells g (k*3) news) 183 146 0 MR 3 underlying183 Gr rfl PU g (m*3) (ps.length - m) (cap - m) (by omega)
   (λj hj=>by rw [eR.o.cell,cG (by rw [rJ.o];omega)];rfl) (λj _=>eR.o.frozen _)
  have hzl:(Builtin.zeroCells MR.cells (ps.length - m)).toList.length=(ps.length - m)*3:=by rw [cC,size_zeroCells];rfl
  generalize (Builtin.zeroCells MR.cells (ps.length - m)).toList=zs at*;have HZl:=dL hzl;clear hzl hmm;generalize w.drew.setCells g (k*3) news=w2 at*;go_wp2_with fail;obtain ⟨zm,fD,hs2,hc2⟩:=jR zs (m*3) w2 IT eR.o (by rw [HZl.o,rJ.o];omega);refine bodyPost_ret (v:=.slice (some g) m (cap)) (by simp [results,results201,go_sem]) rfl ⟨by rw [show m=ps.length - 1 from by omega],⟨by rw [kT,List.length_eraseIdx_of_lt hk],.inr ⟨g,cap,zm,rfl,aS _,fD,by omega,by unfold maxLen;omega,by rw [hs2,rJ.o];omega,?_⟩⟩,kD _ _ _ tq.o⟩;exact Az cur IT zm ps k m news zs HNn.o ug.o Ht.o hc2 (by omega) hk
end Nt
namespace Nt
open Go.RowKit
attribute [local go_sem] dR dO dS dP
variable {w w1:World}
theorem three {B:Nat} {z0 z1 z2:Value} (a b c:Value) (h:Blk w B 146 #[z0,z1,z2]):Blk (((w.setCell B a).setCell (Qc B 1) b).setCell (Qc B 2) c) B 146 #[a,b,c]:=by
 have:=Blk.set_ (Blk.set_ (Blk.set_ h 0 a) 1 b) 2 c;simpa using this
variable {S:Nat->Prop}
theorem PV (k:dm S w w1) (B:Nat) (a b c:Value) (hB:w.heap.size<=B):dm S w (((w1.setCell B a).setCell (Qc B 1) b).setCell (Qc B 2) c):=
 dw (dw (dw k _ _ (λh=>absurd h (by simp;omega))) _ _ (λh=>absurd h (by simp;omega))) _ _ (λh=>absurd h (by simp;omega))
theorem LZ (k:dm S w w1) (B:Nat) (a b c:Value) (hB:S B):dm S w (((w1.setCell B a).setCell (Qc B 1) b).setCell (Qc B 2) c):=
 dw (dw (dw k _ _ (λ_=>hB)) _ _ (λ_=>hB)) _ _ (λ_=>hB)
theorem Gt {B:Nat} {a b c:Value} (h:Blk w B 146 #[a,b,c]):w.cell? B=some a/\w.cell? (Qc B 1)=some b/\w.cell? (Qc B 2)=some c:=
 ⟨h.cell 0,h.cell 1,h.cell 2⟩
theorem take_ok (gN:Nat) (d s:Int) (v:Value) (ps:List Pk) (k:Nat) (w:World) (hN:NetI w gN d s v ps) (hk:k < ps.length) (hm:ps.length<=1000000):
  Calls prog 130 #[Qp gN,k] w λe w'=>∃v',e=.returned (.tuple #[pv ps[k],qn])/\NetI w' gN d s v' (ps.eraseIdx k)/\dm (NS gN v) w w'/\v'.ownBlock=v.ownBlock:=by
 have qY:=hN.lt;have dV:=dH w (.cells #[qn,qn,yj] 146);have hN1:=hN.below dV;have gH:=Blk.new w 146 #[qn,qn,yj];have hvl:∀g,v.ownBlock=some g->g < w.heap.size:=λg hg=>own_lt hN.own hg
 generalize hw1:w.alloc (.cells #[qn,qn,yj] 146)=w1 at*;have yT:=dL hw1;have eR:=dL dV;have uA:=dL hN1;have oO:=dL gH;have HV:=dL hvl;obtain ⟨x,hx⟩:∃x,ps[k]=x:=⟨_,rfl⟩;have fR:=at_ok gN d s v ps k _ hN1 hk hm;rw [hx] at fR ⊢;have QW:=dL fR;clear hN hN1 dV gH hw1 hvl fR hx;unfold pv;go_enter func130,ntmps130;go_wp2_with fail;rw [yT.o];refine QW.o.mono ?_;rintro e w2 ⟨rfl,dY⟩;have F5:=uA.o.below dY;have fD:=Blk.below oO.o dY (Blk.lt oO.o);have hk2:dm (λ_=>False) w w2:=eF (eO eR.o) (eO (S:=λ_=>False) dY) (λ_ _ h=>h);clear dY;unfold pv;have dn:=dH w2 (.cells #[.int .i64 x.f,.int .i64 x.t,.string (bs x.d)] 146);have yO:=F5.below dn;have vO:=Blk.alloc fD (.cells #[.int .i64 x.f,.int .i64 x.t,.string (bs x.d)] 146);have Za:=Blk.new w2 146 #[.int .i64 x.f,.int .i64 x.t,.string (bs x.d)];have oD:=rj hk2 (.cells #[.int .i64 x.f,.int .i64 x.t,.string (bs x.d)] 146);have hBP:w.heap.size < w2.heap.size:=fD.lt;have hc1:=yO.c1;have afq:=yO;obtain ⟨Jh,Vk,Vs⟩:=afq;rcases Vk.2 with ⟨_,h0⟩| ⟨g,cap,cur,rfl,_,hh,hle,lg,hsz,htk⟩
 ·omega
 have Tg:g < w.heap.size:=HV.o g rfl;have hgg:g≠gN:=λe=>Vs (by rw [e];rfl)
 have HD:=dL (Gs g cap cur ps k _ hh hsz hle (by unfold maxLen at lg;omega) htk hk hm);have UC:=dL yO;have eC:=dL vO;have Cg:=dL Za;have qB:=dL oD;clear Jh Vk Vs hh htk yO vO Za oD dn F5 fD hk2;go_wp2_with fail;refine HD.o.mono ?_;rintro e w4 ⟨rfl,Td,hg4⟩;have Tn:=eF (nP (S:=NS gN (.slice (some ⟨g,0,none⟩) ps.length cap)) qB.o (λ_ _ h=>h.elim)) (ek (S:=λi=>i=g) hg4 (λi h=>by cases h;rfl)) (λi _ h=>Or.inr (by rw [h];rfl));have kP:=Blk.grown eC.o hg4 (by intro h;cases h;omega);have M9:=Blk.grown Cg.o hg4 (by intro h;cases h;omega);have Jf:=Blk.grown UC.o.blk hg4 (by intro h;cases h;exact hgg rfl);have hc4:w4.cell? (Qc gN 1)=some _:=Jf.cell 1;have hf4:=Jf.frozen 1;obtain ⟨n1,qX⟩:=dG (ps.length - 1);have hVb:(Value.slice (some ⟨g,0,none⟩) n1 cap).ownBlock=some g:=rfl;rw [<-qX] at Td ⊢;have Vb:=Blk.set_ Jf 1 (.slice (some ⟨g,0,none⟩) n1 cap);have ho5:=tG (w':=w4.setCell (Qc gN 1) (.slice (some ⟨g,0,none⟩) n1 cap)) Td (dw (eT (λi=>i=gN) w4) _ _ (λ_=>rfl)) (λg' h=>by rw [hVb] at h;cases h;exact hgg);have ZE:NetI (w4.setCell (Qc gN 1) (.slice (some ⟨g,0,none⟩) n1 cap)) gN d s (.slice (some ⟨g,0,none⟩) n1 cap) (ps.eraseIdx k):=⟨Vb,by rw [List.length_eraseIdx_of_lt hk,<-qX];exact ho5,by rw [hVb];simpa using hgg⟩;have vU:=Blk.far kP (p:=Qc gN 1) (by simp;omega) (.slice (some ⟨g,0,none⟩) n1 cap);have Zb:=Blk.far M9 (p:=Qc gN 1) (by simp;omega) (.slice (some ⟨g,0,none⟩) n1 cap);have hk5:=dw Tn ⟨gN,1,none⟩ (.slice (some ⟨g,0,none⟩) n1 cap) (λ_=>Or.inl rfl);obtain ⟨p0,p1,p2⟩:=Gt Zb;obtain ⟨p3,p4,p5⟩:=Gt M9;obtain ⟨q3,q4,q5⟩:=Gt kP;have f3:=kP.frozen 0;have f4:=kP.frozen 1;have f5:=kP.frozen 2;obtain ⟨q0,q1,q2⟩:=Gt vU;have f0:=vU.frozen 0;have f1:=vU.frozen 1;have f2:=vU.frozen 2;obtain ⟨r0,r1,r2⟩:=Gt (three (.int .i64 x.f) (.int .i64 x.t) (.string (bs x.d)) vU);have hN6:=ZE.kp (LZ (S:=λi=>i=w.heap.size) (eT _ _) w (.int .i64 x.f) (.int .i64 x.t) (.string (bs x.d)) rfl) (λi hi h=>by
  rcases h with h|h
  ·omega
  ·rw [hVb] at h;cases h;omega)
 have zh:=PV hk5 w (.int .i64 x.f) (.int .i64 x.t) (.string (bs x.d)) (aB _);have HN6:=dL hN6;have Ty:=dL zh;have HVb:=dL hVb;have agL:=dL qX;clear qX hN6 zh hVb hk5 Zb vU ZE ho5 Vb Jf M9 kP Tn hg4 Td;go_wp2_with fail;exact bodyPost_ret (v:=.tuple #[.agg #[.int .i64 x.f,.int .i64 x.t,.string (bs x.d)],qn]) (by simp [results,results130,go_sem,r0,r1,r2]) rfl ⟨_,rfl,HN6.o,Ty.o,rfl⟩
end Nt
namespace Nt
open Go.RowKit
attribute [local go_sem] dR dO dS dP
def cutB (who:Int) (x:Pk):Bool:=decide (x.f=who\/x.t=who)
theorem JK (q:Nat) (who:Int) (x:Pk) (w:World) (hq:w.cell? q=who):
  Calls prog 213 #[pv x,Qp q] w (dM w (.bool (cutB who x))):=by
 have hl:=eB hq;have h1:cutB who x=((x.f ==who) || (x.t ==who)):=by unfold cutB;rw [Bool.eq_iff_iff];simp
 rw [h1];clear h1;obtain ⟨w1,hw1⟩:=dG (w.alloc (.cells #[x.f,x.t,x.d] 146));have hB:=Blk.new w 146 #[x.f,x.t,x.d];have hb:=dH w (.cells #[x.f,x.t,x.d] 146);have hc:=cell?_alloc_old hq (.cells #[x.f,x.t,x.d] 146);rw [<-hw1] at hB hb hc;obtain ⟨e0,e1,e2⟩:=Gt hB;have HW:=dL hw1;have HB:=dL hb;clear hw1 hb hB;unfold pv;cases hA:(x.f ==who) with
 |true=>
  go_enter func213,ntmps213;go_wp2_with fail;rw [<-HW.o];exact bodyPost_ret (v:=.bool true) (by simp [results,results213,go_sem]) rfl ⟨by simp,HB.o⟩
 |false=>
  go_enter func213,ntmps213;go_wp2_with fail;rw [<-HW.o];go_ret;exact ⟨by simp,HB.o⟩
variable {w:World} {u:Value} {ys:List Pk}
theorem row_at (h:w.ownsRow 0 146 3 u ys.length (pcs ys)) {k:Nat} (hk:k < ys.length):∃g cap,u=.slice (some ⟨g,0,none⟩) ys.length cap/\g < w.heap.size/\ys.length<=cap/\cap<=9223372036854775807/\
  w.cell? ⟨g,k*3,none⟩=some (.int .i64 ys[k].f)/\w.cell? ⟨g,k*3+1,none⟩=some (.int .i64 ys[k].t)/\w.cell? ⟨g,k*3+2,none⟩=some (.string (bs ys[k].d)):=by
 rcases h.2 with ⟨_,e2⟩| ⟨g,cap,cur,rfl,_,hh,hle,lg,hsz,htk⟩
 ·omega
 ·have hB:Blk w g 146 cur:=hh
  have key:∀j,j < 3->w.cell? ⟨g,k*3+j,none⟩=(pc ys[k])[j]?:=λj hj=>by
   rw [hB.cell,<-G7 ys k j hk hj,<-htk,bf (by omega),cN]
  exact ⟨g,cap,rfl,hB.lt,hle,lg,key 0 (by omega),key 1 (by omega),key 2 (by omega)⟩
theorem mj{w':World} {n:Nat} {xs:List Value} (h:w.ownsRow 0 146 3 u n xs) (hb:Below w w w'):w'.ownsRow 0 146 3 u n xs:=tG h (eO (S:=λ_=>False) hb) (λ_ _ h=>h)
theorem kg (h:w.ownsRow 0 146 3 u ys.length (pcs ys)):∃A c,u=.slice A ys.length c:=by
 rcases h.2 with ⟨e,e2⟩| ⟨g,cap,cur,e,_⟩
 ·exact ⟨none,0,by rw [e,e2]⟩
 ·exact ⟨_,cap,e⟩
def jo (who:Int) (ps:List Pk):Int:=match ps.findIdx? (cutB who) with
 |some i=>i
 |none=>-1
theorem B3 (q:Nat) (who:Int) (v:Value) (ps:List Pk) (w:World) (hrow:w.ownsRow 0 146 3 v ps.length (pcs ps)) (hq:w.cell? q=who) (hm:ps.length<=1000000):
  Calls prog 284 #[v,.func (.func 213) #[] #[.pointer (some ⟨q,0,none⟩)]] w (dM w (.int .i64 (jo who ps))):=by
 have FV:=eB hq;obtain ⟨A,c,rfl⟩:=kg hrow;have MD:=dL hrow;have HQ:=dL hq;clear hrow hq;go_enter func284,ntmps284;go_wp2_with fail;go_loopw [8] (λi wr=>∃k:Nat,k<=ps.length/\i=.int .i64 k/\Below w w wr/\∀j (hj:j < ps.length),j < k->cutB who ps[j]=false) (λi _=>ps.length - (intOf i).toNat)
 case atStart=>exact ⟨0,by omega,rfl,aC _ _,λj _ h=>by omega⟩
 case round=>
  obtain ⟨k,hk,rfl,hb,hall⟩:=hrel;rcases aD k ps.length with hlt|hge
  ·obtain ⟨g,cap,hv,qY,hcl,hcm,c0,c1,c2⟩:=row_at (mj MD.o hb) hlt
   cases hv;have JS:=dU hb FV HQ.o;have HA:=dL hall;have wB:=dL (JK q who ps[k] wr JS);obtain ⟨x,hx⟩:∃x,ps[k]=x:=⟨_,rfl⟩;rw [hx] at c0 c1 c2 wB;have HX:=dL hx;have HB:=dL hb;clear hall hx hb JS;go_wp2_with fail;refine wB.o.mono ?_;rintro e w2 ⟨rfl,dY⟩;have dn:=HB.o.trans (dY.mono HB.o.size);cases hc:cutB who x with
   |true=>
    go_wp2_with fail;have dy:jo who ps=k:=by
     have h1:ps.findIdx? (cutB who)=some k:=by
      rw [au];exact ⟨hlt,by rw [HX.o];exact hc,λj hj=>by rw [HA.o j (by omega) hj];simp⟩
     unfold jo;rw [h1]
    go_ret;exact ⟨by rw [dy];rfl,dn⟩
   |false=>
    go_wp2_with fail;exact ⟨⟨k+1,by omega,by go_num,dn,λj hj hjk=>by
     by_cases e:j=k
     ·subst e;rw [HX.o];exact hc
     ·exact HA.o j hj (by omega)⟩,by simp [intOf];omega⟩
  ·obtain rfl:k=ps.length:=by omega
   have dy:jo who ps= -1:=by
    have h1:ps.findIdx? (cutB who)=none:=by
     rw [bK];intro x hx;obtain ⟨j,hj,rfl⟩:=bR.1 hx;exact hall j hj hj
    unfold jo;rw [h1]
   go_wp2_with fail;go_ret;exact ⟨by rw [dy];rfl,hb⟩
end Nt
namespace Nt
open Go.RowKit
attribute [local go_sem] dR dO dS dP
def gF (who:Int) (ps:List Pk):List Pk:=ps.filter λx=>!cutB who x
theorem B5 (who:Int) (ps:List Pk) (j:Nat) (h:j < ps.length):gF who (ps.take (j+1))=gF who (ps.take j)++(if cutB who ps[j] then [] else [ps[j]]):=by
 unfold gF;rw [ay h,List.filter_append];congr 1;cases hc:cutB who ps[j] <;> simp [hc]
variable {who:Int} {ps:List Pk}
theorem Gu (h:jo who ps= -1):gF who ps=ps:=by
 unfold jo at h;cases hf:ps.findIdx? (cutB who) with
 |some i=>rw [hf] at h;simp at h
 |none=>
  rw [bK] at hf;unfold gF;rw [List.filter_eq_self];intro x hx;simp [hf x hx]
theorem yA (h:jo who ps≠-1):∃(i:Nat) (hi:i < ps.length),jo who ps=i/\cutB who ps[i]=true/\gF who (ps.take (i+1))=ps.take i:=by
 unfold jo at h ⊢;cases hf:ps.findIdx? (cutB who) with
 |none=>rw [hf] at h;exact absurd rfl h
 |some i=>
  obtain ⟨hi,hc,hall⟩:=au.1 hf;refine ⟨i,hi,rfl,hc,?_⟩;rw [B5 who ps i hi,hc,if_pos rfl,bG];unfold gF;rw [List.filter_eq_self];intro x hx;obtain ⟨j,hj,rfl⟩:=bR.1 hx;have hj':j < i:=by rw [aR] at hj;omega
  rw [List.getElem_take];have:=hall j hj';simp at this;simp [this]
structure CE (w wr:World) (g cap:Nat) (ps ks:List Pk) (j:Nat):Prop where
 ex:∃cur,Blk wr g 146 cur/\cur.size=cap*3/\(∀t,t < ks.length*3->cur[t]? =(pcs ks)[t]?)/\(∀t,j*3<=t->t < ps.length*3->cur[t]? =(pcs ps)[t]?)
 grown:w.grownBy wr (some g)
section
variable {w wr wr':World} {g cap j:Nat} {ps ks:List Pk}
theorem CE.below (h:CE w wr g cap ps ks j) (hb:Below wr wr wr'):CE w wr' g cap ps ks j:=by
 obtain ⟨cur,h1,h2⟩:=h.ex;exact ⟨⟨cur,h1.below hb h1.lt,h2⟩,rK h.grown hb⟩
theorem CE.next (h:CE w wr g cap ps ks j):CE w wr g cap ps ks (j+1):=by
 obtain ⟨cur,h1,h2,h3,h4⟩:=h.ex;exact ⟨⟨cur,h1,h2,h3,λt ht=>h4 t (by omega)⟩,h.grown⟩
theorem CE.cells (h:CE w wr g cap ps ks j) (hj:j < ps.length):wr.cell? ⟨g,j*3,none⟩=some (.int .i64 ps[j].f)/\wr.cell? ⟨g,j*3+1,none⟩=some (.int .i64 ps[j].t)/\wr.cell? ⟨g,j*3+2,none⟩=some (.string (bs ps[j].d)):=by
 obtain ⟨cur,h1,h2,h3,h4⟩:=h.ex;have key:∀i,i < 3->wr.cell? ⟨g,j*3+i,none⟩=(pc ps[j])[i]?:=λi hi=>by rw [h1.cell,h4 _ (by omega) (by omega),G7 ps j i hj hi]
 exact ⟨key 0 (by omega),key 1 (by omega),key 2 (by omega)⟩
theorem CE.lt (h:CE w wr g cap ps ks j):g < wr.heap.size:=by obtain ⟨cur,h1,_⟩:=h.ex;exact h1.lt
theorem CE.some_ (h:CE w wr g cap ps ks j) {i:Nat} (hi:i < cap*3):∃v,wr.cell? (Qc g i)=some v:=by
 obtain ⟨cur,h1,h2,_⟩:=h.ex;exact ⟨cur[i]'(by omega),by rw [h1.cell,cG (by omega)]⟩
theorem CE.frozen (h:CE w wr g cap ps ks j) (i:Nat):wr.frozen? ⟨g,i,none⟩=false:=by obtain ⟨cur,h1,_⟩:=h.ex;exact h1.frozen i
theorem CE.put (h:CE w wr g cap ps ks j) (x:Pk) (hk:ks.length < j) (hj:j<=cap):
  CE w (((wr.setCell ⟨g,ks.length*3,none⟩ x.f).setCell ⟨g,ks.length*3+1,none⟩ x.t).setCell ⟨g,ks.length*3+2,none⟩ x.d) g cap ps (ks++[x]) j:=by
 obtain ⟨cur,h1,h2,h3,h4⟩:=h.ex;refine ⟨⟨_,((h1.set_ (ks.length*3) (.int .i64 x.f)).set_ (ks.length*3+1) (.int .i64 x.t)).set_ (ks.length*3+2) (.string (bs x.d)),by simp [h2],λt ht=>?_,λt ht1 ht2=>?_⟩,dh (dh (dh h.grown (Or.inl rfl) _) (Or.inl rfl) _) (Or.inl rfl) _⟩
 ·simp only [dD,Array.size_setIfInBounds]
  rw [nS];have hl:=kT ks;have hx:pcs [x]=[.int .i64 x.f,.int .i64 x.t,.string (bs x.d)]:=by simp [pcs,pc]
  rcases aD t (ks.length*3) with h|h
  ·rw [if_neg (by omega),if_neg (by omega),if_neg (by omega),h3 t h,bY (by omega)]
  ·rw [bt (by omega),hl,hx]
   have:t=ks.length*3\/t=ks.length*3+1\/t=ks.length*3+2:=by simp at ht;omega
   rcases this with rfl|rfl|rfl
   ·rw [if_neg (by omega),if_neg (by omega),if_pos rfl,if_pos (by omega)];simp
   ·rw [if_neg (by omega),if_pos rfl,if_pos (by omega)];simp
   ·rw [if_pos rfl,if_pos (by omega)];simp
 ·simp only [dD]
  rw [if_neg (by omega),if_neg (by omega),if_neg (by omega)];exact h4 t ht1 ht2
end
end Nt
namespace Nt
open Go.RowKit
attribute [local go_sem] dR dO dS dP
theorem CF (q:Nat) (who:Int) (v:Value) (ps:List Pk) (w:World) (hrow:w.ownsRow 0 146 3 v ps.length (pcs ps)) (hq:w.cell? q=who) (hm:ps.length<=1000000) (hf:jo who ps= -1):
  Calls prog 212 #[v,.func (.func 213) #[] #[.pointer (some ⟨q,0,none⟩)]] w (dM w v):=by
 have h1:=B3 q who v ps w hrow hq hm;rw [hf] at h1;obtain ⟨A,c,rfl⟩:=kg hrow;have H1:=dL h1;clear h1 hf hrow hq;go_enter func212,ntmps212;go_wp2_with fail;refine H1.o.mono ?_;rintro e w2 ⟨rfl,dY⟩;go_wp2_with fail;go_ret;exact ⟨rfl,dY⟩
theorem CG (q:Nat) (who:Int) (g cap:Nat) (ps:List Pk) (w:World) (hrow:w.ownsRow 0 146 3 (.slice (some g) ps.length cap) ps.length (pcs ps)) (hqg:q≠g) (hq:w.cell? q=who) (hm:ps.length<=1000000) (hf:jo who ps≠-1):
  Calls prog 212 #[Qs g ps.length cap,.func (.func 213) #[] #[.pointer (some ⟨q,0,none⟩)]] w λe w'=>
   e=.returned (.slice (some g) (gF who ps).length cap)/\w'.ownsRow 0 146 3 (.slice (some g) (gF who ps).length cap) (gF who ps).length (pcs (gF who ps))/\w.grownBy w' (some g):=by
 have FV:=eB hq;have h1:=B3 q who _ ps w hrow hq hm;obtain ⟨i,hi,mS,sN,hki⟩:=yA hf;rw [mS] at h1;have hne:((i:Int) ==(-1:Int))=false:=beq_eq_false_iff_ne.2 (by omega);obtain ⟨hcap,hcm⟩:ps.length<=cap/\cap<=9223372036854775807:=by
  obtain ⟨_,_,e,_,h3,h4,_⟩:=row_at hrow hi;cases e;exact ⟨h3,h4⟩
 have hmid:CE w w g cap ps (ps.take i) (i+1):=by
  rcases hrow.2 with ⟨e,_⟩| ⟨g',cap',cur,e,_,hh,hle,lg,hsz,htk⟩
  ·cases e
  ·cases e
   refine ⟨⟨cur,hh,hsz,λt ht=>?_,λt _ ht=>?_⟩,dz _ _⟩
   ·rw [aR] at ht
    rw [<-DZ,bf (by omega),<-htk,bf (by omega),cN]
   ·rw [<-htk,bf (by omega),cN]
 rw [<-hki] at hmid;have H1:=dL h1;have HM:=dL hmid;have HQ:=dL hq;have HKI:=dL hki;have hkl:(gF who (ps.take (i+1))).length=i:=by rw [hki,aR];omega
 have yw:=dL hkl;clear h1 hf hrow hq hmid hki mS sN hkl;have hnot:∀(x:Bool) (w:World),(Op.unary .not (.bool x)).run prog w=.ok (.bool (!x)) w:=λ_ _=>rfl
 go_enter func212,ntmps212;go_wp2_with fail;refine H1.o.mono ?_;rintro e w2 ⟨rfl,dY⟩;have F7:=dL (HM.o.below dY);clear dY;go_wp2_with fail;go_loopw [5,6] (λu j wr=>∃jj:Nat,jj<=ps.length/\j=.int .i64 jj/\u=.int .i64 ((gF who (ps.take jj)).length:Nat)/\(gF who (ps.take jj)).length < jj/\CE w wr g cap ps (gF who (ps.take jj)) jj) (λ_ j _=>ps.length - (intOf j).toNat)
 case atStart=>exact ⟨i+1,by omega,by go_num,by rw [yw.o],by rw [yw.o];omega,F7.o⟩
 case round=>
  obtain ⟨j,hj,rfl,rfl,hlt,hmid⟩:=hrel;rcases aD j ps.length with hjl|hjg
  ·obtain ⟨c0,c1,c2⟩:=hmid.cells hjl
   have JS:wr.cell? q=who:=hmid.grown.cell HQ.o (by simpa using hqg);have hks:=B5 who ps j hjl;obtain ⟨x,hx⟩:∃x,ps[j]=x:=⟨_,rfl⟩;rw [hx] at c0 c1 c2 hks;generalize gF who (ps.take j)=ks at*;have dn:=dH wr (.cells #[.int .i64 x.f,.int .i64 x.t,.string (bs x.d)] 146);have HC:=dL (JK q who x _ (cell?_alloc_old JS (.cells #[.int .i64 x.f,.int .i64 x.t,.string (bs x.d)] 146)));have hP:=Blk.new wr 146 #[.int .i64 x.f,.int .i64 x.t,.string (bs x.d)];have HP:=dL hP;have RL:=dL (hmid.below dn);have VO:=dL hks;have qY:=hmid.lt;clear JS hks hx dn hP hmid;go_wp2_with fail;refine HC.o.mono ?_;rintro e w4 ⟨rfl,hb4⟩;have Ci:=RL.o.below hb4;have M9:=Blk.below HP.o hb4 (Blk.lt HP.o);obtain ⟨a0,a1,a2⟩:=Gt M9;cases hcx:cutB who x with
   |true=>
    have B7:=dL Ci;clear Ci M9 hb4;go_wp2_with fail;have e1:gF who (ps.take (j+1))=ks:=by rw [VO.o,hcx];simp
    exact ⟨⟨j+1,by omega,by go_num,by rw [e1],by rw [e1];omega,by rw [e1];exact B7.o.next⟩,by simp [intOf];omega⟩
   |false=>
    obtain ⟨v0,s0⟩:=Ci.some_ (i:=ks.length*3) (by omega);obtain ⟨v1,s1⟩:=Ci.some_ (i:=ks.length*3+1) (by omega);obtain ⟨v2,s2⟩:=Ci.some_ (i:=ks.length*3+2) (by omega);have f0:=Ci.frozen (ks.length*3);have f1:=Ci.frozen (ks.length*3+1);have f2:=Ci.frozen (ks.length*3+2);have B7:=dL (Ci.put x hlt (by omega));have e1:gF who (ps.take (j+1))=ks++[x]:=by rw [VO.o,hcx];simp
    have HE:=dL e1;have hil:ks.length < ps.length:=by omega
    clear Ci M9 hb4 e1;go_wp2_with fail;exact ⟨⟨j+1,by omega,by go_num,by rw [HE.o,aP];go_num,by rw [HE.o,aP];simp;omega,by rw [HE.o];exact B7.o.next⟩,by simp [intOf];omega⟩
  ·obtain rfl:j=ps.length:=by omega
   rw [cD] at hlt hmid ⊢;obtain ⟨ks,hks⟩:=dG (gF who ps);rw [<-hks] at hlt hmid ⊢;have Tj:=dL hks;clear hks;obtain ⟨m,hm'⟩:=dG ks.length;rw [<-hm'] at hlt ⊢;have acC:=lU (P:=prog) wr 183 146 0 MR 3 underlying183 Gr rfl PU g (m*3) (ps.length - m) (cap - m) (by omega)
    (λt ht=>by obtain ⟨u,hu⟩:=hmid.some_ (i:=m*3+t) (by omega);rw [hu];rfl) (λt _=>hmid.frozen _)
   have hzl:(Builtin.zeroCells MR.cells (ps.length - m)).toList.length=(ps.length - m)*3:=by rw [cC,size_zeroCells];rfl
   generalize (Builtin.zeroCells MR.cells (ps.length - m)).toList=zs at*;have HZl:=dL hzl;have yZ:=dL hmid;have HM':=dL hm';clear hzl hmid hm';have hmc:m<=cap:=by omega
   have hml:m<=ps.length:=by omega
   have acf:¬ cap=m:=by omega
   go_wp2_with fail;obtain ⟨cur,h1,h2,h3,h4⟩:=yZ.o.ex;obtain ⟨zm,fD,hs2,hc2⟩:=jR zs (m*3) wr cur h1 (by rw [HZl.o,h2];omega);refine bodyPost_ret (v:=.slice (some g) m cap) (by simp [results,results212,go_sem]) rfl ?_;rw [<-Tj.o,<-HM'.o];refine ⟨rfl,⟨by rw [kT,HM'.o],.inr ⟨g,cap,zm,rfl,aS _,fD,hmc,by unfold maxLen;omega,by rw [hs2,h2],?_⟩⟩,kD _ _ _ yZ.o.grown⟩;apply List.ext_getElem?;intro t;rcases aD t (m*3) with ht|ht
   ·rw [bf ht,cN,hc2,if_neg (by omega),h3 t (by rw [<-HM'.o];exact ht)]
   ·rw [bD (by simp;omega),bD (by rw [kT,<-HM'.o];exact ht)]
end Nt
namespace Nt
open Go.RowKit
attribute [local go_sem] dR dO dS dP
theorem Ec (q:Nat) (who:Int) (v:Value) (ps:List Pk) (w:World) (hrow:w.ownsRow 0 146 3 v ps.length (pcs ps)) (hqv:v.ownBlock≠some q) (hq:w.cell? q=who) (hm:ps.length<=1000000):
  Calls prog 212 #[v,.func (.func 213) #[] #[.pointer (some ⟨q,0,none⟩)]] w λe w'=>
   ∃A' c',e=.returned (.slice A' (gF who ps).length c')/\w'.ownsRow 0 146 3 (.slice A' (gF who ps).length c') (gF who ps).length (pcs (gF who ps))/\w.grownBy w' v.ownBlock/\(Value.slice A' (gF who ps).length c').ownBlock=v.ownBlock:=by
 by_cases hf:jo who ps= -1
 ·refine (CF q who v ps w hrow hq hm hf).mono ?_
  rintro e w' ⟨rfl,hb⟩;rw [Gu hf];have h2:=mj hrow hb;obtain ⟨A,c,rfl⟩:=kg hrow;exact ⟨A,c,rfl,h2,fC hb _,rfl⟩
 ·obtain ⟨i,hi,_⟩:=yA hf
  obtain ⟨g,cap,rfl,_⟩:=row_at hrow hi;refine (CG q who g cap ps w hrow (λe=>hqv (by rw [e];rfl)) hq hm hf).mono ?_;rintro e w' ⟨rfl,ho,hg⟩;exact ⟨_,cap,rfl,ho,hg,rfl⟩
theorem cut_any (gN:Nat) (d s:Int) (v:Value) (ps:List Pk) (who:Int) (w:World) (hN:NetI w gN d s v ps) (hm:ps.length<=1000000):
  Calls prog 135 #[Qp gN,who] w λe w'=>∃v',e=.returned (.int .i64 ((ps.length:Int) - ((gF who ps).length:Nat)))/\NetI w' gN d s v' (gF who ps)/\dm (NS gN v) w w'/\v'.ownBlock=v.ownBlock:=by
 have qY:=hN.lt;have dV:=dH w (.cells #[who] 3);have hN1:=hN.below dV;have hq:(w.alloc (.cells #[who] 3)).cell? w=who:=(Blk.new w 3 #[who]).cell 0;have hvq:v.ownBlock≠some w.heap.size:=λh=>by have:=own_lt hN.own h;omega
 have hD:=Ec w who v ps _ hN1.own hvq hq hm;have hc1:=hN1.c1;obtain ⟨A,c,hv⟩:=hN.slice;have hkl:(gF who ps).length<=ps.length:=List.length_filter_le _ _;have HD:=dL hD;have uA:=dL hN1;have eR:=dL dV;have HV:=dL hv;rw [hv] at hc1;have Z5:∀(fn:Fn) (first cap:Array Value) (w:World),(Instr.makeFunc fn first cap).run prog w=.ok (.func fn first cap) w:=λ_ _ _ _=>rfl
 clear hD hN hN1 dV hv hq hvq;go_enter func135,ntmps135;go_wp2_with fail;rw [<-HV.o];refine HD.o.mono ?_;rintro e w2 ⟨A',c',rfl,Cy,hg2,Ct⟩;have Jg:=Blk.grown uA.o.blk hg2 (λh=>uA.o.far h.symm);have hc2:w2.cell? (Qc gN 1)=some v:=Jg.cell 1;have Hx:=Jg.frozen 1;generalize hkk:(gF who ps).length=m at*;have Jh:=Blk.set_ Jg 1 (.slice A' m c');have BB:=tG (w':=w2.setCell (Qc gN 1) (Qq A' m c')) Cy (dw (eT (λi=>i=gN) w2) _ _ (λ_=>rfl)) (λg' h hh=>by rw [Ct] at h;exact uA.o.far (by rw [h,hh]));have yO:NetI (w2.setCell (Qc gN 1) (Qq A' m c')) gN d s (.slice A' m c') (gF who ps):=⟨Jh,by rw [hkk];exact BB,by rw [Ct];exact uA.o.far⟩;have hc3:=yO.c1;have oD:=dw (eF (eO (S:=NS gN v) eR.o) (ek (S:=NS gN v) hg2 (λi h=>Or.inr h)) (λ_ _ h=>h)) ⟨gN,1,none⟩ (.slice A' m c') (λ_=>Or.inl rfl);have UC:=dL yO;have qB:=dL oD;have HO:=dL Ct;clear yO oD Ct BB Jh Jg Cy hg2;go_wp2_with fail;go_ret;exact ⟨_,by rw [hkk];rfl,UC.o,qB.o,HO.o⟩
end Nt
end Go.Proofs.YtgdaahffmcfhpaaGreatDoor
