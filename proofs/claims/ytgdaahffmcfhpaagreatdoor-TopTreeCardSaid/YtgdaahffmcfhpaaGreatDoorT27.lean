/- Lemmas on the way: VIn VMr VMq VMv VMi. -/
import Derived.Test.YtgdaahffmcfhpaaGreatDoorT26
import Derived.Test.YtgdaahffmcfhpaaGreatDoorT00
set_option maxRecDepth 100000
set_option maxHeartbeats 8000000
namespace Go.Proofs.YtgdaahffmcfhpaaGreatDoor
open Tryz
section
open Go.RowKit
attribute [local go_sem] dO dL dQ dM
theorem AV:(prog.info? 84).map (fun i=>(i.zero,i.size,i.bytes))=some (some (.agg #[.int .i64 0,.int .i64 0,.int .i64 0,.int .i64 0,.int .i64 0,.int .i64 0,.bool false,.int .i64 0,.int .i64 0,.string ⟨#[]⟩,.string ⟨#[]⟩,.int .i64 0,.int .i64 0,.bool false,.int .i64 0,.int .i64 0,.string ⟨#[]⟩,.string ⟨#[]⟩,.bool false,.bool false]),20,184):=by kernel_rfl
theorem Xe (a b:Addr) (la ca lb cb:Nat) (w:World) (hne:a.block≠b.block) (tA tB:TypeId) (kA kB:Nat) (hsa:w.shape? a.block=some (tA,kA)) (hsb:w.shape? b.block=some (tB,kB)) (hkB:kB≠0) (hfa:w.frozen? a=false) (hfe:w.frozen? { block:=a.block,off:=kA }=false):
  (callFunc 89 #[.slice (some a) la ca,.slice (some b) lb cb]).run prog w=.ok (.value (.bool false)) w:=by
 have hz:∀w,(Go.sizeOf 84).run prog w=.ok 20 w:=fun w=>by
  obtain ⟨i0,jd,hz0,hz1,hz2⟩:=info_parts AV;simp [sizeOf,typeInfo,jd,hz1]
 rw [run_callFunc_extern func89 (by kernel_rfl) (by kernel_rfl) (by kernel_rfl) (e:=Extern.SlicesOverlaps.overlaps #[64,64] #[4]) (by kernel_rfl),
  Lib.run_overlaps_apart w 64 4 84 underlying64 20 hz a b la ca lb cb hne tA tB kA kB hsa hsb hkB hfa hfe]
 rfl
def gi (B:Nat) (w:World) (v:Value) (n k:Nat) (cs vs:List Value) (e:Ending) (w':World):Prop:=
 ∃v',e=.returned v'/\dN w' B 20 v' (n+1) (cs.take (k*20)++(vs++cs.drop (k*20)))/\w.grownBy w' v.ownBlock/\(v'.ownBlock=v.ownBlock\/v'.ownBlock=some w.heap.size)
theorem AW (B:Nat) (v:Value) (n:Nat) (cs vs:List Value) (vb vc:Nat) (w:World) (hO:dN w B 20 v n cs) (hm:n<=1000000) (hvl:vs.length=20) (sn:∀u∈vs,u.oneCell'=true)
  (hvs:∀j u,vs[j]? =some u->w.cell? ⟨vb,0+j,none⟩=some u) (hB:B<=w.heap.size):
  Calls prog 39 #[v,.int .i64 n,.slice (some ⟨vb,0,none⟩) 1 vc] w (gi B w v n n cs vs):=by
 obtain ⟨i0,jd,hz0,hz1,hz2⟩:=info_parts AV;have hsrc:Src prog 20 64 (.slice (some ⟨vb,0,none⟩) 1 vc) 1 vs w:=Src.ofSlice w underlying64 ⟨vb,0,none⟩ 1 vc vs (by omega) (fun j u hj=>by rw [Addr.add_lit];exact hvs j u hj) sn;have hcl:=hO.len;have e1:cs.take (n*20)++(vs++cs.drop (n*20))=cs++vs:=by rw [az (by omega),List.drop_eq_nil_of_le (by omega),bD]
 unfold gi;rw [e1];have HO:=dH hO;have HS:=dH hsrc;have HI:=dH jd;have j9:=dH hz0;have gH:=dH hz1;have iH:=dH hz2;have HB:=dH hB;rcases hO.2 with ⟨rfl,rfl⟩| ⟨g,cap,rfl,hb,hlt,hnc,hcm,hs,hf,hx⟩
 ·clear hsrc jd hz0 hz1 hz2 hB hvs sn e1 hcl hO hvl
  go_enter func39,ntmps39;go_wp2_with (at_builtin;refine dZ _ rfl (.tmp 23) (.tmp 24) 64 64 rfl 84 i0 (.agg #[.int .i64 0,.int .i64 0,.int .i64 0,.int .i64 0,.int .i64 0,.int .i64 0,.bool false,.int .i64 0,.int .i64 0,.string ⟨#[]⟩,.string ⟨#[]⟩,.int .i64 0,.int .i64 0,.bool false,.int .i64 0,.int .i64 0,.string ⟨#[]⟩,.string ⟨#[]⟩,.bool false,.bool false]) 20 underlying64 HI.o j9.o gH.o rfl (by decide) B _ 0 cs rfl HO.o (.slice (some ⟨vb,0,none⟩) 1 vc) rfl 1 vs HS.o (by unfold maxLen;omega) (by rw [iH.o];omega) HB.o ?_)
  intro v' w3 hown hgrow gE;have H1:=dH hown;have H2:=dH hgrow;have H3:=dH gE;clear hown hgrow gE;go_wp2_with fail;go_ret;exact ⟨_,rfl,H1.o,H2.o,H3.o⟩
 ·unfold maxLen at hcm
  clear hsrc jd hz0 hz1 hz2 hB hvs sn e1 hcl hO hvl hs hf hx;rcases aG n cap with hc|hc
  ·go_enter func39,ntmps39
   go_wp2_with (at_builtin;refine dZ _ rfl (.tmp 23) (.tmp 24) 64 64 rfl 84 i0 (.agg #[.int .i64 0,.int .i64 0,.int .i64 0,.int .i64 0,.int .i64 0,.int .i64 0,.bool false,.int .i64 0,.int .i64 0,.string ⟨#[]⟩,.string ⟨#[]⟩,.int .i64 0,.int .i64 0,.bool false,.int .i64 0,.int .i64 0,.string ⟨#[]⟩,.string ⟨#[]⟩,.bool false,.bool false]) 20 underlying64 HI.o j9.o gH.o rfl (by decide) B _ n cs rfl HO.o (.slice (some ⟨vb,0,none⟩) 1 vc) rfl 1 vs HS.o (by unfold maxLen;omega) (by rw [iH.o];omega) HB.o ?_)
   intro v' w3 hown hgrow gE;have H1:=dH hown;have H2:=dH hgrow;have H3:=dH gE;clear hown hgrow gE;go_wp2_with fail;go_ret;exact ⟨_,rfl,H1.o,H2.o,H3.o⟩
  ·obtain rfl:cap=n:=by omega
   go_enter func39,ntmps39;go_wp2_with (at_builtin;refine dZ _ rfl (.tmp 23) (.tmp 24) 64 64 rfl 84 i0 (.agg #[.int .i64 0,.int .i64 0,.int .i64 0,.int .i64 0,.int .i64 0,.int .i64 0,.bool false,.int .i64 0,.int .i64 0,.string ⟨#[]⟩,.string ⟨#[]⟩,.int .i64 0,.int .i64 0,.bool false,.int .i64 0,.int .i64 0,.string ⟨#[]⟩,.string ⟨#[]⟩,.bool false,.bool false]) 20 underlying64 HI.o j9.o gH.o rfl (by decide) B _ _ cs rfl HO.o (.slice (some ⟨vb,0,none⟩) 1 vc) rfl 1 vs HS.o (by unfold maxLen;omega) (by rw [iH.o];omega) HB.o ?_)
   intro v' w3 hown hgrow gE;have H1:=dH hown;have H2:=dH hgrow;have H3:=dH gE;clear hown hgrow gE;go_wp2_with fail;go_ret;exact ⟨_,rfl,H1.o,H2.o,H3.o⟩
theorem vu (B g cap n k:Nat) (cs vs:List Value) (vb vc:Nat) (w:World) (hO:dN w B 20 (.slice (some ⟨g,0,none⟩) n cap) n cs) (hm:n<=1000000) (hk:k < n) (hroom:n+1<=cap) (hvl:vs.length=20) (h1c:∀u∈cs,u.oneCell'=true) (sn:∀u∈vs,u.oneCell'=true)
  (hvs:∀j u,vs[j]? =some u->w.cell? ⟨vb,0+j,none⟩=some u) (SE:vb≠g) (tA:TypeId) (kA:Nat) (hsa:w.shape? vb=some (tA,kA)) (hfa:w.frozen? ⟨vb,0,none⟩=false) (hfe:w.frozen? ⟨vb,kA,none⟩=false):
  Calls prog 39 #[.slice (some ⟨g,0,none⟩) n cap,.int .i64 k,.slice (some ⟨vb,0,none⟩) 1 vc] w (gi B w (.slice (some ⟨g,0,none⟩) n cap) n k cs vs):=by
 obtain ⟨i0,jd,hz0,hz1,hz2⟩:=info_parts AV;have hcl:=hO.len;rcases hO.2 with ⟨h,_⟩| ⟨g',cap',he,hb,hlt,hnc,hcm,hs,hf,hx⟩
 ·cases h
 obtain ⟨rfl,rfl⟩:g=g'/\cap=cap':=by cases he;exact ⟨rfl,rfl⟩
 have aby:cap<=9223372036854775807:=by unfold maxLen at hcm;omega
 have hcs:(n+1)*20<=cap*20:=bA _ hroom;obtain ⟨u0,RQ⟩:=Option.isSome_iff_exists.1 (hs 0 (by omega));obtain ⟨tB,kB,hsb,hkB⟩:=pL RQ;have hsz:(prog.info? 84).map (·.size)=some 20:=by rw [jd];simp [hz1]
 have hov:∀lb cb,(callFunc 89 #[.slice (some ⟨vb,0,none⟩) 1 vc,.slice (some ⟨g,(k+1)*20,none⟩) lb cb]).run prog w=.ok (.value (.bool false)) w:=fun lb cb=>Xe ⟨vb,0,none⟩ ⟨g,(k+1)*20,none⟩ 1 vc lb cb w SE tA tB kA kB hsa hsb hkB hfa hfe
 have Bb:(cs.drop (k*20)).length=(n - k)*20:=by rw [ax,hcl];omega
 have OB:∀ty dc sc,(Builtin.copy_ #[64,64] ty #[.slice (some ⟨g,(k+1)*20,none⟩) (n+1 - (k+1)) dc,.slice (some ⟨g,k*20,none⟩) (n+1 - k) sc]).run prog w.drew=.ok (goInt (Nat.min (n+1 - k) (n+1 - (k+1)):Nat)) (w.drew.setCells g ((k+1)*20) (cs.drop (k*20))):=fun ty dc sc=>
  fP w.drew _ _ ty 84 20 g ((k+1)*20) (n+1 - (k+1)) dc ⟨g,k*20,none⟩ (n+1 - k) sc (cs.drop (k*20)) underlying64 hsz (by rw [Bb];simp only [Nat.min_def];split <;> omega)
   (fun j v hj=>by rw [Addr.add_lit];exact hx _ v (by rwa [List.getElem?_drop] at hj))
   (fun j hj=>hs _ (by omega)) (fun j hj=>hf _ (by omega)) (fun v hv=>h1c v (cL hv))
 obtain ⟨W1,mQ⟩:=dB (w.drew.setCells g ((k+1)*20) (cs.drop (k*20)));have OC:∀j,j < cap*20->(W1.cell? ⟨g,j,none⟩).isSome=true:=fun j hj=>by
  rw [mQ];exact World.isSome_setCells g _ _ _ _ (hs j hj)
 have G7:∀(W:World),(∀x,W.cell? x=W1.cell? x)->(∀x,W.frozen? x=W1.frozen? x)->∀ty dc,(Builtin.copy_ #[64,64] ty #[.slice (some ⟨g,k*20,none⟩) (n+1 - k) dc,.slice (some ⟨vb,0,none⟩) 1 vc]).run prog W=.ok (goInt (Nat.min 1 (n+1 - k):Nat)) (W.setCells g (k*20) vs):=fun W EA Oi ty dc=>
  fP W _ _ ty 84 20 g (k*20) (n+1 - k) dc ⟨vb,0,none⟩ 1 vc vs underlying64 hsz (by rw [hvl];simp only [Nat.min_def];split <;> omega)
   (fun j v hj=>by
    rw [Addr.add_lit,EA,mQ,World.cell?_setCells_out g _ _ _ _ (fun h _=>absurd h SE)];exact hvs j v hj)
   (fun j hj=>by rw [EA];exact OC _ (by omega)) (fun j hj=>by rw [Oi,mQ,World.frozen?_setCells];exact hf _ (by omega)) sn
 rw [<-mQ] at OB;have eC:=z8 (w:=w.drew) (B:=B) hcl hvl (ay hk) hroom hb hlt hcm hs hf hx;have HF:=dH eC;have hw1:IntKind.i64.wrap ((k:Int)+1)=(k:Int)+1:=by rw [IntKind.wrap_i64];omega
 have dR:(0:Int)<=(k:Int)+1:=by omega
 have hin:k<=n:=by omega
 have htn:((k:Int)+1).toNat=k+1:=by omega
 have dS:¬ (cap=k+1):=by omega
 have di:(k:Int)<=(n:Int)+1:=by omega
 have hb4:¬ (cap=k):=by omega
 have V7:¬ ((k:Int)=(n:Int)):=by omega
 clear eC hx hs hf OC hvs h1c sn Bb hcl RQ hsb hkB jd hz0 hz1 hz2 hO he hcs hsa hfa hfe hsz hvl;clear hcm;unfold gi;go_enter func39,ntmps39;go_wp2_with (simp only [hov])
 go_region_law (refine iw rfl (.tmp 73) (.tmp 76) 64 64 rfl (.slice (some ⟨g,(k+1)*20,none⟩) (n+1 - (k+1)) (cap - (k+1))) (.slice (some ⟨g,k*20,none⟩) (n+1 - k) (cap - k)) (by simp [Act.eval,Act.put]) (by simp [Act.eval,Act.put]) (OB _ _ _) ?_)
 go_wp2_with (at_builtin;refine wpList_copy_runC _ rfl _ _ 64 64 rfl _ _ rfl rfl (G7 _ (fun _=>rfl) (fun _=>rfl) _ _) ?_)
 go_ret;exact ⟨_,rfl,HF.o.1,⟨HF.o.2.os,HF.o.2.tape,HF.o.2.output,HF.o.2.size,HF.o.2.block⟩,.inl rfl⟩
theorem xe (B g cap n k:Nat) (cs vs:List Value) (vb vc:Nat) (w:World) (hO:dN w B 20 (.slice (some ⟨g,0,none⟩) n cap) n cs) (hm:n<=1000000) (hk:k < n) (hroom:cap < n+1) (hvl:vs.length=20) (h1c:∀u∈cs,u.oneCell'=true) (sn:∀u∈vs,u.oneCell'=true)
  (hvs:∀j u,vs[j]? =some u->w.cell? ⟨vb,0+j,none⟩=some u) (hB:B<=w.heap.size):
  Calls prog 39 #[.slice (some ⟨g,0,none⟩) n cap,.int .i64 k,.slice (some ⟨vb,0,none⟩) 1 vc] w (gi B w (.slice (some ⟨g,0,none⟩) n cap) n k cs vs):=by
 obtain ⟨i0,jd,hz0,hz1,hz2⟩:=info_parts AV;have hcl:=hO.len;rcases hO.2 with ⟨h,_⟩| ⟨g',cap',he,hb,hlt,hnc,hcm,hs,hf,hx⟩
 ·cases h
 obtain ⟨rfl,rfl⟩:g=g'/\cap=cap':=by cases he;exact ⟨rfl,rfl⟩
 obtain rfl:n=cap:=by omega
 have hsz:(prog.info? 84).map (·.size)=some 20:=by rw [jd];simp [hz1]
 have hvw:vb < w.heap.size:=dn (hvs 0 _ (bf (by omega)));have hkk:(n:Int)+1 - (k:Int)=((n+1 - k:Nat):Int):=by omega
 have hik:k+(n+1 - k)=n+1:=by omega
 have hkl:k*20<=n*20:=bA _ (by omega);have htl:(cs.take (k*20)).length=k*20:=by rw [aX,hcl];omega
 have hold:(Builtin.firstCells i0.size k (.slice (some ⟨g,0,none⟩) k n)).run prog w.drew=.ok (cs.take (k*20)).toArray w.drew:=by
  rw [hz1];exact run_firstCells_some w.drew 20 k ⟨g,0,none⟩ k n (cs.take (k*20)) htl (fun j v hj=>by
   rw [Addr.add_lit];rw [List.getElem?_take] at hj;split at hj
   ·rw [aY];exact hx j v hj
   ·cases hj)
 have RU:∀ty,(Builtin.append_ #[64,3] ty #[.slice (some ⟨g,0,none⟩) k n,.int .i64 ((n:Int)+1 - (k:Int))]).run prog w=
   .ok (.slice (some ⟨w.heap.size,0,none⟩) (n+1) (grownCap w (n+1) n 84)) (w.drew.alloc (.cells ((cs.take (k*20)).toArray++Builtin.zeroCells (.agg #[.int .i64 0,.int .i64 0,.int .i64 0,.int .i64 0,.int .i64 0,.int .i64 0,.bool false,.int .i64 0,.int .i64 0,.string ⟨#[]⟩,.string ⟨#[]⟩,.int .i64 0,.int .i64 0,.bool false,.int .i64 0,.int .i64 0,.string ⟨#[]⟩,.string ⟨#[]⟩,.bool false,.bool false]:Value).cells (n+1 - k)++Builtin.zeroCells (.agg #[.int .i64 0,.int .i64 0,.int .i64 0,.int .i64 0,.int .i64 0,.int .i64 0,.bool false,.int .i64 0,.int .i64 0,.string ⟨#[]⟩,.string ⟨#[]⟩,.int .i64 0,.int .i64 0,.bool false,.int .i64 0,.int .i64 0,.string ⟨#[]⟩,.string ⟨#[]⟩,.bool false,.bool false]:Value).cells (grownCap w (n+1) n 84 - (n+1))) 84)):=fun ty=>by
  have h:=Lib.run_append_grow_zeros w 64 3 ty 84 i0 _ .i64 .i64 underlying64 underlying3 jd hz0 (some ⟨g,0,none⟩) k n (cs.take (k*20)) hold (n+1 - k) (by omega) (by omega) (by omega) (by omega) (by rw [hz2];omega) (by rw [hz2,hik];exact growslice_fits (by omega) (by omega));rw [hik] at h;rw [hkk];exact h
 obtain ⟨G,hG⟩:=dB (grownCap w (n+1) n 84);obtain ⟨lg,BR⟩:∃lg:Array Value,lg=(cs.take (k*20)).toArray++Builtin.zeroCells (.agg #[.int .i64 0,.int .i64 0,.int .i64 0,.int .i64 0,.int .i64 0,.int .i64 0,.bool false,.int .i64 0,.int .i64 0,.string ⟨#[]⟩,.string ⟨#[]⟩,.int .i64 0,.int .i64 0,.bool false,.int .i64 0,.int .i64 0,.string ⟨#[]⟩,.string ⟨#[]⟩,.bool false,.bool false]:Value).cells (n+1 - k)++Builtin.zeroCells (.agg #[.int .i64 0,.int .i64 0,.int .i64 0,.int .i64 0,.int .i64 0,.int .i64 0,.bool false,.int .i64 0,.int .i64 0,.string ⟨#[]⟩,.string ⟨#[]⟩,.int .i64 0,.int .i64 0,.bool false,.int .i64 0,.int .i64 0,.string ⟨#[]⟩,.string ⟨#[]⟩,.bool false,.bool false]:Value).cells (G - (n+1)):=⟨_,rfl⟩;rw [<-hG] at RU;rw [<-BR] at RU;have Z8:n+1<=G:=by rw [hG];exact grownCap_ge w _ _ _
 have VA:G<=maxLen:=by rw [hG];exact grownCap_le_maxLen w (n+1) n 84 (by unfold maxLen;omega)
 have abz:G<=9223372036854775807:=by unfold maxLen at VA;omega
 have hzl:(.agg #[.int .i64 0,.int .i64 0,.int .i64 0,.int .i64 0,.int .i64 0,.int .i64 0,.bool false,.int .i64 0,.int .i64 0,.string ⟨#[]⟩,.string ⟨#[]⟩,.int .i64 0,.int .i64 0,.bool false,.int .i64 0,.int .i64 0,.string ⟨#[]⟩,.string ⟨#[]⟩,.bool false,.bool false]:Value).cells.size=20:=rfl;have RV:lg.size=G*20:=by
  rw [BR];simp only [Array.size_append,bG,size_zeroCells,hzl,htl];omega
 have Z9:∀j u,j < k*20->cs[j]? =some u->lg[j]? =some u:=fun j u hj hu=>by
  rw [BR,Array.append_assoc,Array.getElem?_append_left (by rw [bG,htl];exact hj)];simpa [bW hj] using hu
 obtain ⟨W1,mQ⟩:=dB (w.drew.alloc (.cells lg 84));rw [<-mQ] at RU;have Sr:∀j,W1.cell? ⟨w.heap.size,j,none⟩=lg[j]?:=fun j=>by rw [mQ];exact World.cell?_alloc_at (w:=w.drew) lg _ w.heap.size j rfl
 have hN:∀j,j < G*20->(W1.cell? ⟨w.heap.size,j,none⟩).isSome=true:=fun j hj=>by
  rw [Sr,cK (by omega)];rfl
 have RW:∀j,W1.frozen? ⟨w.heap.size,j,none⟩=false:=fun j=>by rw [mQ];exact World.frozen?_alloc_at (w:=w.drew) lg _ w.heap.size j rfl
 have ZA:∀j v,w.cell? ⟨g,j,none⟩=some v->W1.cell? ⟨g,j,none⟩=some v:=fun j v h=>by rw [mQ,World.cell?_alloc_past (w:=w.drew) _ g j hlt];exact h
 have ZB:∀j v,w.cell? ⟨vb,j,none⟩=some v->W1.cell? ⟨vb,j,none⟩=some v:=fun j v h=>by rw [mQ,World.cell?_alloc_past (w:=w.drew) _ vb j hvw];exact h
 have hk1:(k+1)*20=k*20+20:=Nat.succ_mul _ _;have hcs:(n+1)*20<=G*20:=bA _ Z8;have VB:∀(W:World),(∀x,W.cell? x=W1.cell? x)->(∀x,W.frozen? x=W1.frozen? x)->∀ty dc,(Builtin.copy_ #[64,64] ty #[.slice (some ⟨w.heap.size,k*20,none⟩) (n+1 - k) dc,.slice (some ⟨vb,0,none⟩) 1 vc]).run prog W=.ok (goInt (Nat.min 1 (n+1 - k):Nat)) (W.setCells w.heap.size (k*20) vs):=fun W EA Oi ty dc=>
  fP W _ _ ty 84 20 w.heap.size (k*20) (n+1 - k) dc ⟨vb,0,none⟩ 1 vc vs underlying64 hsz (by rw [hvl];simp only [Nat.min_def];split <;> omega)
   (fun j v hj=>by rw [Addr.add_lit,EA];exact ZB _ v (hvs j v hj))
   (fun j hj=>by rw [EA];exact hN _ (by omega)) (fun j hj=>by rw [Oi];exact RW _) sn
 have hGi:¬ (G=k):=by omega
 have abA:¬ (G=k+1):=by omega
 have pT:¬ (n=k):=by omega
 have RX:g≠w.heap.size:=by omega
 have Bb:(cs.drop (k*20)).length=(n - k)*20:=by rw [ax,hcl];omega
 have OD:∀(W:World),(∀x,W.cell? x=(W1.setCells w.heap.size (k*20) vs).cell? x)->(∀x,W.frozen? x=(W1.setCells w.heap.size (k*20) vs).frozen? x)->∀ty dc sc,(Builtin.copy_ #[64,64] ty #[.slice (some ⟨w.heap.size,(k+1)*20,none⟩) (n+1 - (k+1)) dc,.slice (some ⟨g,k*20,none⟩) (n - k) sc]).run prog W=.ok (goInt (Nat.min (n - k) (n+1 - (k+1)):Nat)) (W.setCells w.heap.size ((k+1)*20) (cs.drop (k*20))):=fun W EA Oi ty dc sc=>
  fP W _ _ ty 84 20 w.heap.size ((k+1)*20) (n+1 - (k+1)) dc ⟨g,k*20,none⟩ (n - k) sc (cs.drop (k*20)) underlying64 hsz (by rw [Bb];simp only [Nat.min_def];split <;> omega)
   (fun j v hj=>by
    rw [Addr.add_lit,EA,World.cell?_setCells_out _ _ _ _ _ (fun h _=>absurd h RX)];exact ZA _ v (hx _ v (by rwa [List.getElem?_drop] at hj)))
   (fun j hj=>by rw [EA];exact World.isSome_setCells _ _ _ _ _ (hN _ (by omega)))
   (fun j hj=>by rw [Oi,World.frozen?_setCells];exact RW _) (fun v hv=>h1c v (cL hv))
 have eC:=zA (W:=W1) (B:=B) (g:=w.heap.size) hcl hvl (ay hk) Z8 hB (by rw [mQ];exact (by simp:w.heap.size < (w.drew.alloc (.cells lg 84)).heap.size)) VA hN (fun j _=>RW j) (fun j u hj hu=>by rw [Sr];exact Z9 j u hj hu);have hgb:w.grownBy ((W1.setCells w.heap.size (k*20) vs).setCells w.heap.size ((k+1)*20) (cs.drop (k*20))) (some g):=by
  have h1:Below w.heap.size w W1:=by rw [mQ];exact ((aC w.heap.size w).drew).alloc (aB _) _
  exact eo (h1.trans ⟨eC.2.os,eC.2.tape,eC.2.output,eC.2.size,fun i hi=>eC.2.block i (aN hi h1.size) (fun e=>by cases e;omega)⟩) _
 have HF:dG (dN (((w.alloc (.cells lg 84)).drew.setCells w.heap.size (k*20) vs).drew.setCells w.heap.size ((k+1)*20) (cs.drop (k*20))) B 20 (.slice (some ⟨w.heap.size,0,none⟩) (n+1) G) (n+1) (cs.take (k*20)++(vs++cs.drop (k*20)))/\
   w.grownBy (((w.alloc (.cells lg 84)).drew.setCells w.heap.size (k*20) vs).drew.setCells w.heap.size ((k+1)*20) (cs.drop (k*20))) (some g)):=by
  have he:(((w.alloc (.cells lg 84)).drew.setCells w.heap.size (k*20) vs).drew.setCells w.heap.size ((k+1)*20) (cs.drop (k*20))).heap=((W1.setCells w.heap.size (k*20) vs).setCells w.heap.size ((k+1)*20) (cs.drop (k*20))).heap:=
   fL _ _ _ _ _ (fL _ _ _ (w.alloc (.cells lg 84)).drew _ (by rw [mQ];rfl))
  refine show _/\_ from ⟨eC.1.heap_eq he,⟨?_,?_,?_,by rw [he];exact hgb.size,fun i hi hne=>by rw [he];exact hgb.block i hi hne⟩⟩
  ·rw [gx];exact gx _ _ _ _
  ·rw [ec];exact ec _ _ _ _
  ·rw [gO];exact gO _ _ _ _
 subst mQ;have hE1:∀x,((w.alloc (.cells lg 84)).drew).cell? x=(w.drew.alloc (.cells lg 84)).cell? x:=fun x=>rfl
 have hE2:∀x,((w.alloc (.cells lg 84)).drew).frozen? x=(w.drew.alloc (.cells lg 84)).frozen? x:=fun x=>rfl
 have hF1:∀x,(((w.alloc (.cells lg 84)).drew.setCells w.heap.size (k*20) vs).drew).cell? x=((w.drew.alloc (.cells lg 84)).setCells w.heap.size (k*20) vs).cell? x:=fun x=>rfl
 have hF2:∀x,(((w.alloc (.cells lg 84)).drew.setCells w.heap.size (k*20) vs).drew).frozen? x=((w.drew.alloc (.cells lg 84)).setCells w.heap.size (k*20) vs).frozen? x:=fun x=>rfl
 have hw1:IntKind.i64.wrap ((k:Int)+1)=(k:Int)+1:=by rw [IntKind.wrap_i64];omega
 have dR:(0:Int)<=(k:Int)+1:=by omega
 have hin:k<=n:=by omega
 have htn:((k:Int)+1).toNat=k+1:=by omega
 have di:(k:Int)<=(n:Int):=by omega
 have V7:¬ ((k:Int)=(n:Int)):=by omega
 clear hkk hik hold BR hG RV Z9 Sr hN RW ZA ZB hx hs hf eC hgb Bb hcs hk1 htl hkl hvs h1c sn hO he jd hz0 hz1 hz2 hsz hcl hvl VA hcm hzl;unfold gi;go_enter func39,ntmps39;go_wp2_with (first
  |(at_builtin;refine Lib.wpList_append_run _ rfl _ _ _ _ rfl _ _ rfl rfl _ _ (RU _) ?_)
  |(at_builtin;refine wpList_copy_runC _ rfl _ _ 64 64 rfl _ _ rfl rfl (VB _ hE1 hE2 _ _) ?_)
  |(at_builtin;refine wpList_copy_runC _ rfl _ _ 64 64 rfl _ _ rfl rfl (OD _ (fun _=>rfl) (fun _=>rfl) _ _ _) ?_))
 go_region_law (refine iw rfl _ _ 64 64 rfl (.slice (some ⟨w.heap.size,(k+1)*20,none⟩) (n+1 - (k+1)) (G - (k+1))) (.slice (some ⟨g,k*20,none⟩) (n - k) (n - k)) (by simp [Act.eval,Act.put]) (by simp [Act.eval,Act.put]) (OD _ hF1 hF2 3 (G - (k+1)) (n - k)) ?_)
 go_wp2;go_ret;exact ⟨_,rfl,HF.o.1,⟨HF.o.2.os,HF.o.2.tape,HF.o.2.output,HF.o.2.size,HF.o.2.block⟩,.inr rfl⟩
theorem AX (B:Nat) (v:Value) (n k:Nat) (cs vs:List Value) (vb vc:Nat) (w:World) (hO:dN w B 20 v n cs) (hm:n<=1000000) (hk:k<=n) (hvl:vs.length=20) (h1c:∀u∈cs,u.oneCell'=true) (sn:∀u∈vs,u.oneCell'=true)
  (hV:Blk w vb 84 vs.toArray) (SE:v.ownBlock≠some vb) (hB:B<=w.heap.size):
  Calls prog 39 #[v,.int .i64 k,.slice (some ⟨vb,0,none⟩) 1 vc] w (gi B w v n k cs vs):=by
 have hvs:∀j u,vs[j]? =some u->w.cell? ⟨vb,0+j,none⟩=some u:=fun j u hu=>by rw [aY,hV.cell];simpa using hu
 rcases aG k n with hlt|hge
 ·have RY:=hO
  rcases hO.2 with ⟨rfl,rfl⟩| ⟨g,cap,rfl,hb,hlt2,hnc,hcm,hs,hf,hx⟩
  ·omega
  have hne:vb≠g:=fun e=>SE (by rw [e];rfl)
  rcases aG n cap with hc|hc
  ·exact vu B g cap n k cs vs vb vc w RY hm hlt hc hvl h1c sn hvs hne _ _ hV.shape (hV.frozen 0) (hV.frozen _)
  ·exact xe B g cap n k cs vs vb vc w RY hm hlt (by omega) hvl h1c sn hvs hB
 ·obtain rfl:k=n:=by omega
  exact AW B v k cs vs vb vc w hO hm hvl sn hvs hB
def rightS (s:St):Bool:=!(decide (s.1 < 1) || decide (s.1 > 1099511627776) || decide (s.2 < 0) || decide (s.2≥15))
theorem ku (s:St) (w:World):Calls prog 31 #[.agg #[.int .i64 s.1,.int .i64 s.2]] w (dJ w (.int .i64 (if rightS s then 0 else 20))):=by
 have HB:=dH ((aC w.heap.size w).alloc (aB _) (.cells #[.int .i64 s.1,.int .i64 s.2] 30));unfold rightS;cases h1:decide (s.1 < 1) <;> cases h2:decide (s.1 > 1099511627776) <;> cases h3:decide (s.2 < 0) <;> cases h4:decide (s.2≥15);all_goals (
  go_enter func31,ntmps31;go_wp2_with fail;go_ret;exact ⟨rfl,HB.o⟩)
theorem ME (w:World):Calls prog 5 #[] w fun e w'=>e=.returned (.pointer (some ⟨w.heap.size+1,0,none⟩))/\kH w' (w.heap.size+1) w.heap.size (.slice none 0 0) 0 []/\Below w.heap.size w w'/\w'.heap.size=w.heap.size+2:=by
 have hmk:=Tl w;have hm:=gP.new w;have hs:kH ((w.alloc (.map #[] 0)).alloc (.cells #[.slice none 0 0,.map (some w.heap.size),.int .i64 0] 66)) (w.heap.size+1) w.heap.size (.slice none 0 0) 0 []:=
  ⟨Blk.new2 w _ 66 _,hm.below ((aC _ _).alloc (aB _) _)⟩
 have HS:=dH hs;have HB:=dH (((aC w.heap.size w).alloc (aB _) (.map #[] 0)).alloc (by simp) (.cells #[.slice none 0 0,.map (some w.heap.size),.int .i64 0] 66));clear hm hs;go_enter func5,ntmps5;go_wp2_with fail;go_ret;exact ⟨rfl,HS.o,HB.o,by simp⟩
end
section
set_option linter.unusedSimpArgs false
set_option linter.unusedVariables false
open Go.RowKit
theorem AY (s:St):∀es:List Nd,es.findIdx? (en s)=(ids es).findIdx? (fun i=>decide (i=s))
 | []=>rfl
 |e :: r=>by
  have ih:=AY s r;unfold ids at ih ⊢;rw [ai,List.findIdx?_cons,List.findIdx?_cons,ih];rfl
theorem Gj {s:St} {es:List Nd} (h:ek s es=true):∃i,∃hi:i < es.length,es.findIdx? (en s)=some i/\eP s es=es[i]/\es[i].id=s:=by
 have hf:=iu (s:=s) (xs:=es);cases hp:es.findIdx? (en s) with
 |none=>
  unfold ek at h;rw [hf.2 hp] at h;cases h
 |some i=>
  obtain ⟨hi,h1,h2⟩:=hf.1 i hp;exact ⟨i,hi,rfl,by unfold eP;rw [h1];rfl,h2⟩
theorem oa {s:St} {es:List Nd} (h:ek s es=false):es.findIdx? (en s)=none/\s∉ids es:=by
 have hf:=iu (s:=s) (xs:=es);cases hp:es.findIdx? (en s) with
 |none=>
  refine ⟨rfl,fun hm=>?_⟩;obtain ⟨x,hx,he⟩:=aV.1 hm;have:=List.find?_eq_none.1 (hf.2 hp) x hx;exact this (by simp [en,he])
 |some i=>
  obtain ⟨hi,h1,h2⟩:=hf.1 i hp;unfold ek at h;rw [h1] at h;cases h
theorem AZ {es:List Nd} {n:Nd} (h:ek n.id es=true):∃i,∃hi:i < es.length,es[i].id=n.id/\iY es n=es.set i n/\eP n.id es=es[i]/\es.findIdx? (en n.id)=some i:=by
 obtain ⟨i,hi,h1,h2,h3⟩:=Gj h;exact ⟨i,hi,h3,by unfold iY;rw [h1],h2,h1⟩
theorem od {es:List Nd} {n:Nd} (h:ek n.id es=false):iY es n=es++[n]:=by
 unfold iY;rw [(oa h).1]
theorem Cn {es:List Nd} {n:Nd} (h:ek n.id es=true):ids (iY es n)=ids es:=by
 obtain ⟨i,hi,h1,h2,_⟩:=AZ h;rw [h2,uY hi h1]
theorem xg {es:List Nd} {n:Nd} (h:ek n.id es=false):ids (iY es n)=ids es++[n.id]:=by
 rw [od h];simp [ids]
theorem QW (es:List Nd) (n:Nd):(iY es n).length<=es.length+1:=by
 cases h:ek n.id es with
 |true=>obtain ⟨i,hi,h1,h2,_⟩:=AZ h;rw [h2];simp
 |false=>rw [od h];simp
theorem JO {es:List Nd} {n:Nd} (h:(ids es).Nodup):(ids (iY es n)).Nodup:=by
 cases hh:ek n.id es with
 |true=>rw [Cn hh];exact h
 |false=>
  rw [xg hh,cS];refine ⟨h,by simp,?_⟩;intro a ha b hb;rw [aU.1 hb];exact fun e=>(oa hh).2 (e ▸ ha)
theorem QX {es:List Nd} (x:dV):Gi (tI es x) (Cj es x)=es:=by
 unfold Gi tI;cases hm:(Cj es x).made with
 |false=>simp
 |true=>
  have hid:=Ck (es:=es) (x:=x) hm;generalize hn:(fQ es x (eP x.node es) (ek x.node es)).1=n at hid;simp only [if_true];have yI:(Cj es x).had=ek x.node es:=rfl;have abB:(Cj es x).was=eP x.node es:=rfl;have hop:(Cj es x).op.node=x.node:=rfl;rw [yI,abB,hop,<-hid];cases hh:ek n.id es with
  |true=>
   simp only [if_true];obtain ⟨i,hi,h1,h2,h3,h4⟩:=AZ hh;have h5:(es.set i n).findIdx? (en es[i].id)=some i:=by rw [AY,uY hi h1,<-AY,h1,h4]
   rw [h2,h3];unfold iY;rw [h5];simp
  |false=>
   simp only [bR,if_false];rw [od hh];unfold Ci;rw [List.findIdx?_append,(oa hh).1];simp [en,List.eraseIdx_append_of_length_le]
def iF (L:List dV):List Nd:=L.foldl tI []
theorem FD (L:List dV) (x:dV):iF (L++[x])=tI (iF L) x:=by simp [iF]
theorem zC {es:List Nd} (x:dV) (h:(ids es).Nodup):(ids (tI es x)).Nodup:=by
 unfold tI;split
 ·exact JO h
 ·exact h
theorem QY (es:List Nd) (x:dV):(tI es x).length<=es.length+1:=by
 unfold tI;split
 ·exact QW _ _
 ·omega
theorem Co (L:List dV):∀es:List Nd,(ids es).Nodup->(ids (L.foldl tI es)).Nodup:=by
 induction L with
 |nil=>exact fun es h=>h
 |cons x L ih=>exact fun es h=>ih _ (zC x h)
theorem JP (L:List dV):∀es:List Nd,(L.foldl tI es).length<=es.length+L.length:=by
 induction L with
 |nil=>intro es;simp
 |cons x L ih=>intro es;have h1:=ih (tI es x);have h2:=QY es x;simp only [List.foldl_cons,aQ];omega
theorem Cp (L:List dV):(ids (iF L)).Nodup:=Co L [] List.Pairwise.nil
theorem oe (L:List dV):(iF L).length<=L.length:=by have:=JP L [];simpa [iF] using this
theorem vv {L:List dV} {k:Nat} (hk:k < L.length):iF (L.take (k+1))=tI (iF (L.take k)) L[k]:=by
 rw [bF hk,FD]
def fE (es:List Nd):List dV->List Rec
 | []=>[]
 |x :: l=>Cj es x :: fE (tI es x) l
def fJ (L:List dV):List Rec:=fE [] L
theorem Ab (L:List dV):∀es,(fE es L).length=L.length:=by
 induction L with
 |nil=>intro es;rfl
 |cons x L ih=>intro es;simp [fE,ih]
theorem Cq (L:List dV):∀(es:List Nd) (k:Nat) (hk:k < L.length) (hk':k < (fE es L).length),(fE es L)[k]=Cj ((L.take k).foldl tI es) L[k]:=by
 induction L with
 |nil=>intro es k hk;simp at hk
 |cons x L ih=>
  intro es k hk hk';cases k with
  |zero=>rfl
  |succ k=>exact ih (tI es x) k (by simpa using hk) (by simpa [fE] using hk')
theorem eT (L:List dV):(fJ L).length=L.length:=Ab L []
theorem zD (L:List dV) (k:Nat) (hk:k < L.length):(fJ L)[k]'(by rw [eT];exact hk)=Cj (iF (L.take k)) L[k]:=Cq L [] k hk _
theorem xh (L:List dV):∀(es:List Nd) (k:Nat),(fE es L).take k=fE es (L.take k):=by
 induction L with
 |nil=>intro es k;simp [fE]
 |cons x L ih=>
  intro es k;cases k with
  |zero=>rfl
  |succ k=>simp [fE,ih]
theorem Cs (L:List dV) (k:Nat):(fJ L).take k=fJ (L.take k):=xh L [] k
theorem Ct {a b:Int}:sE a b < 0↔a < b:=by unfold sE;split <;> (try split) <;> constructor <;> intro h <;> omega
theorem mI {a b:Int}:sE a b=0↔a=b:=by unfold sE;split <;> (try split) <;> constructor <;> intro h <;> omega
theorem mJ {a b:St}:dX a b=true↔(a.1 < b.1\/(a.1=b.1/\a.2 < b.2)):=by unfold dX;simp
theorem vw {a b:St}:nA a b < 0↔dX a b=true:=by
 rw [mJ];unfold nA;by_cases h:sE a.1 b.1=0
 ·rw [if_neg (by simpa using h),Ct]
  have:=mI.1 h;omega
 ·rw [if_pos h,Ct]
  have:a.1≠b.1:=fun e=>h (mI.2 e)
  omega
theorem zF {a b:St}:nA a b=0↔a=b:=by
 unfold nA;by_cases h:sE a.1 b.1=0
 ·rw [if_neg (by simpa using h),mI]
  have:=mI.1 h;exact ⟨fun h2=>Prod.ext this h2,fun e=>by rw [e]⟩
 ·rw [if_pos h]
  exact ⟨fun e=>absurd e h,fun e=>by rw [e];exact mI.2 rfl⟩
theorem oJ (a:St):dX a a=false:=by unfold dX;simp
theorem kz {a b c:St} (h:dX a b=true) (k:dX b c=true):dX a c=true:=by rw [mJ] at*;omega
theorem FE {a b:St} (h:dX a b=true):dX b a=false:=by
 cases hb:dX b a with
 |false=>rfl
 |true=>have:=kz h hb;rw [oJ] at this;cases this
theorem qC {a b:St} (h:dX a b=false) (hne:a≠b):dX b a=true:=by
 rw [mJ];have h1:¬ (dX a b=true):=by rw [h];simp
 rw [mJ] at h1;have h2:¬ (a.1=b.1/\a.2=b.2):=fun ⟨e1,e2⟩=>hne (Prod.ext e1 e2)
 omega
def l6 (L:List dV):Prop:=L.Pairwise fun a b=>dX a.st b.st=true
def qD (L:List dV) (s:St):Nat:=(L.takeWhile fun x=>dX x.st s).length
def xl (L:List dV) (s:St):Bool:=decide (∃ha:qD L s < L.length,L[qD L s].st=s)
def ox (L:List dV) (x:dV):List dV:=L.take (qD L x.st)++x :: L.drop (qD L x.st)
def iU (L:List dV) (x:dV):Int:=if rightS x.st then (if xl L x.st then 24 else if L.length≥400 then 40 else 0) else 20
def k9 (L:List dV) (x:dV):List dV:=if iU L x=0 then ox L x else L
theorem pM {α:Type} (p:α->Bool):∀(l:List α) (a:Nat),a<=l.length->(∀j (hj:j < l.length),j < a->p l[j]=true)->(∀j (hj:j < l.length),a<=j->p l[j]=false)->(l.takeWhile p).length=a
 | [],a,h,_,_=>by simp at h;simp [h]
 |x :: l,0,_,_,h2=>by
  have:=h2 0 (by simp) (aB _);simp at this;simp [this]
 |x :: l,a+1,h,h1,h2=>by
  have h0:=h1 0 (by simp) (by omega);simp at h0;rw [List.takeWhile_cons,h0];simp;exact pM p l a (by simpa using h) (fun j hj hlt=>by have:=h1 (j+1) (by simpa using hj) (by omega);simpa using this) (fun j hj hle=>by have:=h2 (j+1) (by simpa using hj) (by omega);simpa using this)
theorem kC {α:Type} (p:α->Bool):∀(l:List α),(l.takeWhile p).length<=l.length/\(∀j (hj:j < l.length),j < (l.takeWhile p).length->p l[j]=true)/\(∀h:(l.takeWhile p).length < l.length,p l[(l.takeWhile p).length]=false)
 | []=> ⟨by simp,fun j hj=>by simp at hj,fun h=>by simp at h⟩
 |x :: l=>by
  obtain ⟨h1,h2,h3⟩:=kC p l;cases hx:p x with
  |false=>simp [List.takeWhile_cons,hx]
  |true=>
   simp only [List.takeWhile_cons,hx,if_true,aQ];refine ⟨by omega,fun j hj hlt=>?_,fun h=>h3 (by omega)⟩;cases j with
   |zero=>exact hx
   |succ j=>exact h2 j (by simpa using hj) (by omega)
theorem Ac (L:List dV) (s:St):qD L s<=L.length:=(kC _ L).1
theorem MF {L:List dV} {s:St} {j:Nat} (hj:j < L.length) (h:j < qD L s):dX L[j].st s=true:=(kC (fun x:dV=>dX x.st s) L).2.1 j hj h
theorem l6.at_ {L:List dV} (h:l6 L) {i j:Nat} (hi:i < L.length) (hj:j < L.length) (hij:i < j):dX L[i].st L[j].st=true:=dA.1 h i j hi hj hij
theorem MG {L:List dV} (h:l6 L) {s:St} {j:Nat} (hj:j < L.length) (hle:qD L s<=j):dX L[j].st s=false:=by
 have h0:=(kC (fun x:dV=>dX x.st s) L).2.2 (by show qD L s < L.length;omega);have h0':dX (L[qD L s]'(by omega)).st s=false:=h0;rcases aG (qD L s) j with hlt|hge
 ·cases hc:dX L[j].st s with
  |false=>rfl
  |true=>rw [kz (h.at_ (by omega) hj hlt) hc] at h0';cases h0'
 ·have:qD L s=j:=by omega
  subst this;exact h0'
theorem MH {L:List dV} (h:l6 L) {s:St}:xl L s=true↔∃x∈L,x.st=s:=by
 unfold xl;rw [decide_eq_true_iff];constructor
 ·rintro ⟨ha,he⟩
  exact ⟨_,ag ha,he⟩
 ·rintro ⟨x,hx,he⟩
  obtain ⟨j,hj,rfl⟩:=List.getElem_of_mem hx;have h1:¬ j < qD L s:=fun hlt=>by have:=MF hj hlt;rw [he,oJ] at this;cases this
  rcases aG (qD L s) j with hlt|hge
  ·have h2:=h.at_ (i:=qD L s) (by omega) hj hlt
   rw [he] at h2;rw [MG h (by omega) (aB _)] at h2;cases h2
  ·have:qD L s=j:=by omega
   subst this;exact ⟨hj,he⟩
theorem MI (L:List dV) (x:dV):(ox L x).length=L.length+1:=by have:=Ac L x.st;simp [ox];omega
theorem Cu {L:List dV} (h:l6 L) {x:dV} (hn:xl L x.st=false):l6 (ox L x):=by
 have hno:∀y∈L,y.st≠x.st:=fun y hy e=>by
  have:=(MH h).2 ⟨y,hy,e⟩;rw [hn] at this;cases this
 unfold ox l6;have hsplit:L=L.take (qD L x.st)++L.drop (qD L x.st):=(cO _ _).symm;have hp:(L.take (qD L x.st)++L.drop (qD L x.st)).Pairwise fun a b=>dX a.st b.st=true:=by rw [<-hsplit];exact h
 rw [List.pairwise_append] at hp ⊢;obtain ⟨p1,p2,p3⟩:=hp;have OH:∀a∈L.take (qD L x.st),dX a.st x.st=true:=fun a ha=>by
  obtain ⟨j,hj,rfl⟩:=List.getElem_of_mem ha;simp only [aX] at hj;rw [List.getElem_take];exact MF (by omega) (by omega)
 have ZC:∀b∈L.drop (qD L x.st),dX x.st b.st=true:=fun b hb=>by
  have hbL:=cL hb;obtain ⟨j,hj,rfl⟩:=List.getElem_of_mem hb;simp only [ax] at hj;rw [List.getElem_drop] at hbL ⊢;exact qC (MG h (by omega) (by omega)) (hno _ hbL)
 refine ⟨p1,List.pairwise_cons.2 ⟨ZC,p2⟩,fun a ha b hb=>?_⟩;rcases aR.1 hb with rfl|hb
 ·exact OH a ha
 ·exact p3 a ha b hb
theorem wA {L:List dV} {x:dV}:iU L x=0↔rightS x.st=true/\xl L x.st=false/\L.length < 400:=by
 unfold iU;cases rightS x.st <;> cases xl L x.st <;> simp
theorem Cv {L:List dV} (h:l6 L) (x:dV):l6 (k9 L x):=by
 unfold k9;split
 ·next hc=>exact Cu h (wA.1 hc).2.1
 ·exact h
theorem zG (L:List dV) (x:dV):(ox L x).take (qD L x.st)=L.take (qD L x.st):=by
 unfold ox;have:=Ac L x.st;rw [List.take_append_of_le_length (by rw [aX];omega),List.take_take,Nat.min_self]
end
section
open Go.RowKit
attribute [local go_sem] dO dL dQ dM
structure fh (w w':World) (p m:Nat) (v:Value):Prop where
 os:w'.os=w.os
 tape:w'.tape=w.tape
 output:w'.output=w.output
 size:w.heap.size<=w'.heap.size
 block:∀i,i < w.heap.size->i≠p->i≠m->some i≠v.ownBlock->w'.heap[i]? =w.heap[i]?
section
variable {w w' w2:World} {p m:Nat} {v v':Value}
theorem fh.refl (w:World) (p m:Nat) (v:Value):fh w w p m v:=⟨rfl,rfl,rfl,aB _,fun _ _ _ _ _=>rfl⟩
theorem fh.trans (h:fh w w' p m v) (k:fh w' w2 p m v') (hv:∀g,v'.ownBlock=some g->v.ownBlock=some g\/w.heap.size<=g):fh w w2 p m v:=
 ⟨k.os.trans h.os,k.tape.trans h.tape,k.output.trans h.output,aK h.size k.size,fun i hi h1 h2 h3=>(k.block i (aN hi h.size) h1 h2 (fun e=>by
  rcases hv i e.symm with h4|h4
  ·exact h3 h4.symm
  ·omega)).trans (h.block i hi h1 h2 h3)⟩
theorem fh.below (h:fh w w' p m v) (k:Below w'.heap.size w' w2):fh w w2 p m v:=
 ⟨k.os.trans h.os,k.tape.trans h.tape,k.output.trans h.output,aK h.size k.size,fun i hi h1 h2 h3=>(k.block i (aN hi h.size)).trans (h.block i hi h1 h2 h3)⟩
theorem fh.ofBelow (k:Below w.heap.size w w') (p m:Nat) (v:Value):fh w w' p m v:=(fh.refl w p m v).below k
theorem fh.grown {g:Nat} (h:fh w w' p m v) (k:w'.grownBy w2 (some g)) (hg:g=p\/g=m\/v.ownBlock=some g\/w.heap.size<=g):fh w w2 p m v:=
 ⟨k.os.trans h.os,k.tape.trans h.tape,k.output.trans h.output,aK h.size k.size,fun i hi h1 h2 h3=>(k.block i (aN hi h.size) (fun e=>by
  have e':i=g:=aa e;subst e';rcases hg with hg|hg|hg|hg
  ·exact h1 hg
  ·exact h2 hg
  ·exact h3 hg.symm
  ·omega)).trans (h.block i hi h1 h2 h3)⟩
theorem fh.grownO (h:fh w w' p m v) (k:w'.grownBy w2 v'.ownBlock) (hv:∀g,v'.ownBlock=some g->v.ownBlock=some g\/w.heap.size<=g):fh w w2 p m v:=
 ⟨k.os.trans h.os,k.tape.trans h.tape,k.output.trans h.output,aK h.size k.size,fun i hi h1 h2 h3=>(k.block i (aN hi h.size) (fun e=>by
  rcases hv i e.symm with h4|h4
  ·exact h3 h4.symm
  ·omega)).trans (h.block i hi h1 h2 h3)⟩
theorem fh.toBelow (h:fh w w' p m v) {B:Nat} (hB:B<=w.heap.size) (hp:B<=p) (hm:B<=m) (hv:∀g,v.ownBlock=some g->B<=g):Below B w w':=
 ⟨h.os,h.tape,h.output,h.size,fun i hi=>h.block i (by omega) (by omega) (by omega) (fun e=>by have:=hv i e.symm;omega)⟩
end
theorem jr.toV {w w':World} {g p m:Nat} {v:Value} (h:jr w w' g m) (hv:v.ownBlock=some g):fh w w' p m v:=
 ⟨h.os,h.tape,h.output,h.size,fun i hi _ h2 h3=>h.block i hi (fun e=>h3 (by rw [hv,e])) h2⟩
structure zH (w:World) (B p m:Nat) (v:Value) (r:Int) (R:List Rec) (es:List Nd):Prop where
 stt:kH w p m v r es
 log:Log w B v R
 nep:v.ownBlock≠some p
 nem:v.ownBlock≠some m
theorem zH.below {w w':World} {B p m:Nat} {v:Value} {r:Int} {R:List Rec} {es:List Nd} (h:zH w B p m v r R es) (hb:Below w.heap.size w w'):zH w' B p m v r R es:=
 ⟨h.stt.below hb,dN.below h.log hb,h.nep,h.nem⟩
structure Tn (w:World) (B p m:Nat) (v:Value) (r:Int) (L:List dV):Prop where
 s3:zH w B p m v r (fJ L) (iF L)
 sorted:l6 L
 len:L.length<=400
 p_ge:B<=p
 m_ge:B<=m
theorem Tn.below {w w':World} {B p m:Nat} {v:Value} {r:Int} {L:List dV} (h:Tn w B p m v r L) (hb:Below w.heap.size w w'):Tn w' B p m v r L:=⟨h.s3.below hb,h.sorted,h.len,h.p_ge,h.m_ge⟩
theorem Log.at_ {w:World} {B:Nat} {v:Value} {R:List Rec} (h:Log w B v R) {k:Nat} (hk:k < R.length):
  ∃g c,v=.slice (some ⟨g,0,none⟩) R.length c/\v.ownBlock=some g/\R.length<=c/\c<=9223372036854775807/\fG w g (k*20) R[k]/\∀j,j < 20->w.frozen? ⟨g,k*20+j,none⟩=false:=by
 rcases h.2 with ⟨rfl,h0⟩| ⟨g,cap,rfl,hb,hlt,hnc,hcm,hs,hf,hx⟩
 ·omega
 ·refine ⟨g,cap,rfl,rfl,hnc,by unfold maxLen at hcm;omega,⟨hlt,fun j u hu=>hx _ u ?_⟩,fun j hj=>hf _ (by omega)⟩
  have hj:j < 20:=by
   rcases aG j 20 with h|h
   ·exact h
   ·rw [bI (by rw [oH];exact h)] at hu;cases hu
  rw [AU R k j hk hj];exact hu
theorem Log.set_ {w w':World} {B g c:Nat} {R:List Rec} {k:Nat} {d:Rec} (h:Log w B (.slice (some ⟨g,0,none⟩) R.length c) R) (hk:k < R.length) (hr:fG w' g (k*20) d)
  (hout:∀j,(j < k*20\/k*20+20<=j)->w'.cell? ⟨g,j,none⟩=w.cell? ⟨g,j,none⟩) (hfr:∀j,w'.frozen? ⟨g,j,none⟩=w.frozen? ⟨g,j,none⟩):
  Log w' B (.slice (some ⟨g,0,none⟩) R.length c) (R.set k d):=by
 rcases h.2 with ⟨h0,_⟩| ⟨g',cap,e,hb,hlt,hnc,hcm,hs,hf,hx⟩
 ·cases h0
 ·cases e
  refine ⟨by rw [uZ],.inr ⟨g,c,by rw [cQ],hb,hr.1,by rw [cQ];exact hnc,hcm,fun j hj=>?_,fun j hj=>by rw [hfr];exact hf j hj,fun j u hu=>?_⟩⟩
  ·rcases aG j (k*20) with h1|h1
   ·rw [hout j (.inl h1)];exact hs j hj
   ·rcases aG j (k*20+20) with h2|h2
    ·have hl:j - k*20 < (rc d).length:=by rw [oH];omega
     have:=hr.2 (j - k*20) _ (bf hl);rw [show k*20+(j - k*20)=j from by omega] at this;rw [this];rfl
    ·rw [hout j (.inr h2)];exact hs j hj
  ·have hjl:j < (rcs (R.set k d)).length:=by
    rcases aG j (rcs (R.set k d)).length with h|h
    ·exact h
    ·rw [bI h] at hu;cases hu
   rw [uZ,cQ] at hjl;have hq:j / 20 < R.length:=by omega
   have hd:j=j / 20*20+j % 20:=by omega
   rw [hd,AU (R.set k d) (j / 20) (j % 20) (by rw [cQ];exact hq) (by omega)] at hu;by_cases hc:k=j / 20
   ·subst hc
    rw [List.getElem_set_self] at hu;have:=hr.2 _ u hu;rw [<-hd] at this;exact this
   ·rw [List.getElem_set_ne hc] at hu
    rw [hout j (by omega)];refine hx j u ?_;rw [hd,AU R (j / 20) (j % 20) hq (by omega)];exact hu
theorem zH.undo {w w':World} {B p m:Nat} {v:Value} {r:Int} {R:List Rec} {es es':List Nd} (h:zH w B p m v r R es) (hs:kH w' p m v r es') (hg:w.grownBy w' (some m)):zH w' B p m v r R es':=
 ⟨hs,dN.kept h.log hg (by
  cases hv:v.ownBlock with
  |none=>exact .inl rfl
  |some g=>exact .inr (fun e=>h.nem (by rw [hv,e]))),h.nep,h.nem⟩
theorem zH.did {w w':World} {B g c p m:Nat} {r:Int} {R:List Rec} {es es':List Nd} {k:Nat} {d:Rec} (h:zH w B p m (.slice (some ⟨g,0,none⟩) R.length c) r R es) (hk:k < R.length) (hd:uA w w' g (k*20) p m (.slice (some ⟨g,0,none⟩) R.length c) r d es'):
  zH w' B p m (.slice (some ⟨g,0,none⟩) R.length c) r (R.set k d) es':=
 ⟨hd.stt,Log.set_ h.log hk hd.rec_ (fun j hj=>hd.o j (by omega)) hd.frozen,h.nep,h.nem⟩
end
section
set_option linter.unusedSimpArgs false
set_option linter.unusedVariables false
open Go.RowKit
attribute [local go_sem] dO dL dQ dM
theorem FF (s:St) (A:Option Addr) (c:Nat) (L:List dV) (w:World) (h:Wo w A L.length c (fJ L)) (hn:L.length<=1000000) (hs:l6 L):
  Calls prog 34 #[.slice A L.length c,sv s,.func (.func 35) #[] #[]] w (dJ w (.tuple #[.int .i64 (qD L s),.bool (xl L s)])):=by
 have hop:∀j (hj:j < (fJ L).length),(fJ L)[j].op.st=(L[j]'(by rw [eT] at hj;exact hj)).st:=fun j hj=>by
  rw [zD L j (by rw [eT] at hj;exact hj)];rfl
 refine (FC s A L.length c (fJ L) w h hn ?_).mono ?_
 ·intro i j hi hj hij hc
  rw [hop] at hc ⊢;rw [vw] at hc ⊢;rcases aG i j with hlt|hge
  ·exact kz (hs.at_ _ _ hlt) hc
  ·obtain rfl:i=j:=by omega
   exact hc
 ·rintro e w' ⟨a,t,ha,hlo,hhi,ht,rfl,hb⟩
  rw [eT] at ha;have gE:qD L s=a:=pM _ L a ha (fun j hj hlt=>by
   have:=hlo j (by rw [eT];exact hj) hlt;rw [hop,vw] at this;exact this) (fun j hj hle=>by
   have:=hhi j (by rw [eT];exact hj) hle;rw [hop,vw] at this;simpa using this)
  have hth:t=xl L s:=by
   rw [ht];unfold xl;rw [gE];apply decide_eq_decide.2;constructor
   ·rintro ⟨h1,h2⟩
    refine ⟨by rw [eT] at h1;exact h1,?_⟩;rw [hop,zF] at h2;exact h2
   ·rintro ⟨h1,h2⟩
    refine ⟨by rw [eT];exact h1,?_⟩;rw [hop,zF];exact h2
  refine ⟨by rw [gE,<-hth],hb⟩
theorem kH.grownO {w w':World} {p m:Nat} {v:Value} {r:Int} {es:List Nd} {row:Option Nat} (h:kH w p m v r es) (k:w.grownBy w' row) (hp:some p≠row) (hm:some m≠row):kH w' p m v r es:=⟨h.blk.grown k hp,h.map.grown k hm⟩
theorem kH.setR {w:World} {p m:Nat} {v:Value} {r:Int} {es:List Nd} (h:kH w p m v r es) (r':Int):kH (w.setCell ⟨p,2,none⟩ (.int .i64 r')) p m v r' es:=by
 have h1:=Blk.set_ h.blk 2 (.int .i64 r');exact ⟨by simpa using h1,h.map.grown (dh (dx w _) (.inl rfl) _) (fun e=>h.map.ne_blk h.blk (aa e))⟩
theorem kH.setV {w:World} {p m:Nat} {v:Value} {r:Int} {es:List Nd} (h:kH w p m v r es) (v':Value):kH (w.setCell ⟨p,0,none⟩ v') p m v' r es:=by
 have h1:=Blk.set_ h.blk 0 v';exact ⟨by simpa using h1,h.map.grown (dh (dx w _) (.inl rfl) _) (fun e=>h.map.ne_blk h.blk (aa e))⟩
theorem dN.apart {w:World} {B size n:Nat} {v:Value} {xs:List Value} (h:dN w B size v n xs) {g:Nat} (hne:v.ownBlock≠some g) (u:Value) (i:Nat):dN (w.setCell ⟨g,i,none⟩ u) B size v n xs:=
 h.kept (dh (dx w g) (.inl rfl) u) (.inr hne)
theorem zH.setR {w:World} {B p m:Nat} {v:Value} {r:Int} {R:List Rec} {es:List Nd} (h:zH w B p m v r R es) (r':Int):zH (w.setCell ⟨p,2,none⟩ (.int .i64 r')) B p m v r' R es:=
 ⟨h.stt.setR r',dN.apart h.log h.nep _ _,h.nep,h.nem⟩
def JQ (x:dV):Rec:=⟨x,nd0,false,false⟩
theorem Gk (R:List Rec):∀u∈rcs R,u.oneCell'=true:=by
 intro u hu;obtain ⟨d,_,hd⟩:=List.mem_flatMap.1 hu;simp only [rc,oc,nc,aq,af,aR,bJ,or_false] at hd;rcases hd with rfl|rfl|rfl|rfl|rfl|rfl|rfl|rfl|rfl|rfl|rfl|rfl|rfl|rfl|rfl|rfl|rfl|rfl|rfl|rfl <;> rfl
theorem qE (a b:List Rec):rcs (a++b)=rcs a++rcs b:=by simp [rcs]
theorem MJ (R:List Rec) (k:Nat) (hk:k<=R.length):(rcs R).take (k*20)=rcs (R.take k):=by
 have h:rcs R=rcs (R.take k)++rcs (R.drop k):=by rw [<-qE,cO]
 rw [h,List.take_left' (by rw [uZ,aX];congr 1;omega)]
theorem MK (R:List Rec) (k:Nat) (hk:k<=R.length):(rcs R).drop (k*20)=rcs (R.drop k):=by
 have h:rcs R=rcs (R.take k)++rcs (R.drop k):=by rw [<-qE,cO]
 rw [h,List.drop_left' (by rw [uZ,aX];congr 1;omega)]
theorem Log.inserted {w w':World} {B k:Nat} {v:Value} {R:List Rec} {d:Rec} {e:Ending} (hk:k<=R.length) (h:gi B w v R.length k (rcs R) (rc d) e w'):
  ∃A n c,n=R.length+1/\e=.returned (.slice A n c)/\Log w' B (.slice A n c) (R.take k++d :: R.drop k)/\w.grownBy w' v.ownBlock/\((Value.slice A n c).ownBlock=v.ownBlock\/(Value.slice A n c).ownBlock=some w.heap.size):=by
 obtain ⟨v',rfl,ho,hg,gE⟩:=h;obtain ⟨A,c,rfl⟩:=ho.isSlice;refine ⟨A,_,c,rfl,rfl,?_,hg,gE⟩;have hl:(R.take k++d :: R.drop k).length=R.length+1:=by simp;omega
 have he:rcs (R.take k++d :: R.drop k)=(rcs R).take (k*20)++(rc d++(rcs R).drop (k*20)):=by
  rw [qE,MJ R k hk,MK R k hk];rfl
 show dN w' B 20 _ _ _;rw [hl,he];exact ho
theorem Cw (L:List dV):∀es,(fE es L).map (·.op)=L:=by
 induction L with
 |nil=>intro es;rfl
 |cons x L ih=>intro es;simp [fE,ih];rfl
theorem JR (L:List dV):(fJ L).map (·.op)=L:=Cw L []
theorem uB (a b:List dV):∀es,fE es (a++b)=fE es a++fE (a.foldl tI es) b:=by
 induction a with
 |nil=>intro es;rfl
 |cons x a ih=>intro es;simp [fE,ih]
theorem Cy (L:List dV) (x:dV):fJ (L++[x])=fJ L++[Cj (iF L) x]:=by
 unfold fJ;rw [uB];rfl
structure qx (R:List Rec) (L:List dV) (j:Nat):Prop where
 op:R.map (·.op)=L
 take:R.take j=fJ (L.take j)
theorem qx.start (L:List dV) (x:dV):qx ((fJ L).take (qD L x.st)++JQ x :: (fJ L).drop (qD L x.st)) (ox L x) (qD L x.st):=by
 have hle:=Ac L x.st;constructor
 ·unfold ox
  simp only [bV,ai,List.map_take,List.map_drop,JR];rfl
 ·rw [zG,<-Cs,List.take_append_of_le_length (by rw [aX,eT];omega),List.take_take,Nat.min_self]
theorem qx.len {R:List Rec} {L:List dV} {j:Nat} (h:qx R L j):R.length=L.length:=by rw [<-h.op,bM]
theorem qx.at_ {R:List Rec} {L:List dV} {j:Nat} (h:qx R L j) {i:Nat} (hi:i < R.length):R[i].op=L[i]'(by rw [<-h.len];exact hi):=by
 have:=h.op;subst this;simp
theorem qx.next {R:List Rec} {L:List dV} {j:Nat} (h:qx R L j) (hj:j < L.length):qx (R.set j (Cj (iF (L.take j)) L[j])) L (j+1):=by
 have hr:=h.len;constructor
 ·rw [List.map_set,h.op]
  show L.set j L[j]=L;simp
 ·rw [bF (by rw [cQ];omega),List.getElem_set_self,List.take_set_of_le (aB _),h.take,bF hj,Cy]
theorem qx.all {R:List Rec} {L:List dV} (h:qx R L L.length):R=fJ L:=by
 have:=h.take;rw [bz,<-h.len,bz] at this;exact this
theorem zH.did_ {w w':World} {B g c p m n:Nat} {r:Int} {R:List Rec} {es es':List Nd} {k:Nat} {d:Rec} (hn:R.length=n) (h:zH w B p m (.slice (some ⟨g,0,none⟩) n c) r R es) (hk:k < R.length) (hd:uA w w' g (k*20) p m (.slice (some ⟨g,0,none⟩) n c) r d es'):
  zH w' B p m (.slice (some ⟨g,0,none⟩) n c) r (R.set k d) es':=by
 subst hn;exact h.did hk hd
def Xf (w:World) (B p m:Nat) (v:Value) (r:Int) (L:List dV) (x:dV) (e:Ending) (w':World):Prop:=
 ∃v' r',e=.returned (.int .i64 (iU L x))/\Tn w' B p m v' r' (k9 L x)/\fh w w' p m v/\(∀g,v'.ownBlock=some g->v.ownBlock=some g\/w.heap.size<=g)/\
  (iU L x=0->r'=L.length - qD L x.st)/\(iU L x≠0->r'=r)
theorem zI (x:dV) (B p m:Nat) (v:Value) (r:Int) (L:List dV) (w:World) (h:Tn w B p m v r L) (hB:B<=w.heap.size):
  Calls prog 9 #[.pointer (some ⟨p,0,none⟩),ov x] w (Xf w B p m v r L x):=by
 have dR:=dD w (.cells (oc x).toArray 32);have ZD:=Blk.new w 32 (oc x).toArray;obtain ⟨w1,hw1⟩:=dB (w.alloc (.cells (oc x).toArray 32));rw [<-hw1] at dR ZD;have h1:=h.below dR;have HW:=dH hw1;have eH:=dH dR;have yC:=dH ZD;have HM:=dH h;have Ss:=dH h1;have HBw:=dH hB;have x0:=ZD.cell 0;have x1:=ZD.cell 1;unfold oc at HW x0 x1;simp only [aP,aS,aW] at x0 x1;clear hw1 dR ZD h h1 hB;unfold ov;generalize hQ:Xf w B p m v r L x=Q;have HQ:=dH hQ;clear hQ;go_enter func9,ntmps9;go_wp2_with fail;rw [<-HW.o];cases hr:rightS x.st with
 |false=>
  have HR:=dH hr;go_wp2_with (go_at_call 31;refine (ku _ _).mono ?_;rintro e w2 ⟨rfl,dS⟩;rw [HR.o];have eG:=dH dS;clear dS)
  rw [<-HQ.o];have hc:iU L x=20:=by unfold iU;rw [HR.o];rfl
  refine ⟨v,r,by rw [hc];rfl,?_,?_,fun g hg=>.inl hg,fun h0=>by omega,fun _=>rfl⟩
  ·have:k9 L x=L:=by unfold k9;rw [if_neg (by omega)]
   rw [this];exact Ss.o.below eG.o
  ·exact (fh.ofBelow eH.o p m v).below eG.o
 |true=>
  have HR:=dH hr;go_upto_region 6 with (go_at_call 31;refine (ku _ _).mono ?_;rintro e w2 ⟨rfl,dS⟩;rw [HR.o];have eG:=dH dS;clear dS)
  have Kl:=dH (Ss.o.below eG.o);have c0:=Kl.o.s3.stt.c0;obtain ⟨A,c,rfl,hrd⟩:=Kl.o.s3.log.rds;rw [eT] at hrd c0;have k0:=fun u:dm w2=>u.cell c0
  have k1:=fun u:dm w2=>u.cell (dP eG.o yC.o.lt x0)
  have k2:=fun u:dm w2=>u.cell (dP eG.o yC.o.lt x1)
  obtain ⟨at_,gE⟩:∃a,a=qD L x.st:=⟨_,rfl⟩;obtain ⟨hs_,S5⟩:∃b,b=xl L x.st:=⟨_,rfl⟩;have Su:∀u:dm w2,Calls prog 34 #[.slice A L.length c,sv x.st,.func (.func 35) #[] #[]] u.wd fun e w''=>e=.returned (.tuple #[.int .i64 at_,.bool hs_])/\∃y:dm w2,w''=y.wd:=fun u=>by
   rw [gE,S5];exact fU (FF x.st A c L u.wd (hrd.below u.below) (by have:=HM.o.len;omega) HM.o.sorted)
  have HS:=dH Su;have OI:=dH gE;have HHs:=dH S5;clear Su hrd gE S5 c0;refine eD (by kernel_rfl) (by kernel_rfl) ?_;repeat (go_big_quiet_step (exact HS.o _))
  refine wpQuiet_nil ?_;rintro _ ⟨u,rfl⟩;have PN:=dH (Kl.o.below u.below);have dw:=dH (eG.o.trans (u.below.mono eG.o.size));clear k0 k1 k2 HS x0 x1 hr;obtain ⟨w3,iI⟩:=dB u.wd;rw [<-iI] at PN dw ⊢;clear iI u;cases hs_ with
  |true=>
   go_wp2_with fail;rw [<-HQ.o];have hc:iU L x=24:=by unfold iU;rw [HR.o,<-HHs.o];rfl
   refine ⟨_,r,by rw [hc];rfl,?_,?_,fun g hg=>.inl hg,fun h0=>by omega,fun _=>rfl⟩
   ·have:k9 L x=L:=by unfold k9;rw [if_neg (by omega)]
    rw [this];exact PN.o
   ·exact (fh.ofBelow eH.o p m _).below dw.o
  |false=>
   have c0:=PN.o.s3.stt.c0;rw [eT] at c0;by_cases hbig:L.length≥400
   ·have hd:decide ((L.length:Int)≥400)=true:=by simp;omega
    go_wp2_with fail;rw [<-HQ.o];have hc:iU L x=40:=by unfold iU;rw [HR.o,<-HHs.o];simp [hbig]
    refine ⟨_,r,by rw [hc];rfl,?_,?_,fun g hg=>.inl hg,fun h0=>by omega,fun _=>rfl⟩
    ·have:k9 L x=L:=by unfold k9;rw [if_neg (by omega)]
     rw [this];exact PN.o
    ·exact (fh.ofBelow eH.o p m _).below dw.o
   ·have hd:decide ((L.length:Int)≥400)=false:=by simp;omega
    go_wp2_with fail;have abC:=dH (yC.o.below dw.o yC.o.lt);have eN:at_<=L.length:=by rw [OI.o];exact Ac _ _
    have h0:0<=at_:=aT _;have lJ:=dH ((fh.ofBelow eH.o p m (.slice A L.length c)).below dw.o);have hs3:=PN.o.s3;rw [eT] at hs3;have Fx:=dH hs3;clear hd c0 hs3;go_loopw [8] (fun i wr=>∃k:Nat,at_<=k/\k<=L.length/\i=.int .i64 ((k:Int) - 1)/\zH wr B p m (.slice A L.length c) r (fJ L) (iF (L.take k))/\fh w wr p m (.slice A L.length c)/\Blk wr w.heap.size 32 (oc x).toArray) (fun i _=>(intOf i+1).toNat)
    case atStart=>exact ⟨L.length,eN,aB _,rfl,by rw [bz];exact Fx.o,lJ.o,abC.o⟩
    case round=>
     obtain ⟨k,hk1,hk2,rfl,hS,hK,hX⟩:=hrel;rcases aG at_ k with hlt|hge
     ·obtain ⟨j,rfl⟩:∃j,k=j+1:=⟨k - 1,by omega⟩
      have ej:((j+1:Nat):Int) - 1=(j:Int):=by omega
      rw [ej];clear ej;have hj:j < L.length:=by omega
      have ZE:j < (fJ L).length:=by rw [eT];exact hj
      obtain ⟨g,c2,e2,hown,hnc,hcm,BT,hfr⟩:=Log.at_ hS.log ZE;rw [eT] at e2 hnc;cases e2;rw [zD L j hj] at BT;have c0:=hS.stt.c0;have hU:=QU _ g (j*20) p m _ r _ wr BT (fun hh=>qw hh) hS.stt;rw [vv hj,QX] at hU;have HU:=dH hU;have HS:=dH hS;have HK:=dH hK;have HX:=dH hX;have abD:(j:Int)≥(at_:Int):=by omega
      have hlt2:(j:Int) < (L.length:Int):=by omega
      clear hS hK hX hU BT hfr hown;go_wp2_with (go_at_call 38;refine HU.o.mono ?_;rintro e w4 ⟨rfl,hs4,hg4⟩;have H4:=dH (HS.o.undo hs4 hg4);have HG:=dH hg4;clear hs4 hg4)
      refine ⟨⟨j,by omega,by omega,rfl,H4.o,HK.o.grown HG.o (.inr (.inl rfl)),HX.o.grown HG.o (fun e=>HS.o.stt.map.ne_blk HX.o (aa e).symm)⟩,?_⟩;simp [intOf]
     ·obtain rfl:k=at_:=by omega
      have hd:decide ((k:Int) - 1≥(k:Int))=false:=by simp;omega
      have HS:=dH hS;have HK:=dH hK;have HX:=dH hX;clear hS hK hX;have c0:=HS.o.stt.c0;have c2:=HS.o.stt.c2;have f2:=HS.o.stt.blk.frozen 2;have H5:=dH (HS.o.setR ((L.length:Int) - (k:Int)));have K5:=dH (HK.o.grown (dh (dx wr p) (p:=⟨p,2,none⟩) (.inl rfl) (.int .i64 ((L.length:Int) - (k:Int)))) (.inl rfl));have hnp:w.heap.size≠p:=fun e=>by
       have h1:=HS.o.stt.blk;have h2:=HX.o;rw [e] at h2;unfold Blk at h1 h2;rw [h1] at h2;injection h2 with h2
       injection h2 with h3 h4 h5
       cases h4
      have HNp:=dH hnp;have hxo:(Value.slice A L.length c).ownBlock≠some w.heap.size:=fun e=>by
       have:=(dN.ge HM.o.s3.log w.heap.size (by rw [eT];exact e)).2;omega
      have HXo:=dH hxo;have X5:=dH (Blk.far HX.o (p:=⟨p,2,none⟩) hnp (.int .i64 ((L.length:Int) - (k:Int))));clear hnp hxo;go_upto_region 16 with (fail);clear c0 c2 f2;obtain ⟨w5,gL⟩:=dB (wr.setCell ⟨p,2,none⟩ (.int .i64 ((L.length:Int) - (k:Int))));rw [<-gL] at H5 K5 X5 ⊢;clear gL;have c0:=H5.o.stt.c0;obtain ⟨x0,x1,x2,x3,x4,x5,x6,x7,x8,x9,x10⟩:=eO X5.o;have Bf:∀gg,(Value.slice A L.length c).ownBlock=some gg->gg < w5.heap.size:=fun gg e=>(dN.ge H5.o.log gg e).2
      obtain ⟨w6,qQ⟩:=dB ((w5.alloc (.cells #[.int .i64 x.st.1,.int .i64 x.st.2,.int .i64 x.seq,.int .i64 x.kind,.int .i64 x.node.1,.int .i64 x.node.2,.bool x.dir,.int .i64 x.par.1,.int .i64 x.par.2,.string (bs x.nm),.string (bs x.mf),.int .i64 0,.int .i64 0,.bool false,.int .i64 0,.int .i64 0,.string ⟨#[]⟩,.string ⟨#[]⟩,.bool false,.bool false] 84)).drew);have Ra:Below w5.heap.size w5 w6:=by rw [qQ];exact ((aC _ w5).alloc (aB _) _).drew
      have Km:Blk w6 w5.heap.size 84 (rc (JQ x)).toArray:=by rw [qQ];exact (Blk.new w5 84 _).drew
      have hI:=AX B (.slice A L.length c) L.length k (rcs (fJ L)) (rc (JQ x)) w5.heap.size 1 w6 (by have:=dN.below H5.o.log Ra;rw [eT] at this;exact this) (by omega) (by omega) rfl (Gk _) (fun u hu=>Gk [JQ x] u (by simpa [rcs] using hu)) Km (fun e=>by have:=Bf _ e;omega) (by have:=HBw.o;have:=K5.o.size;have:=Ra.size;omega);rw [show L.length=(fJ L).length from (eT L).symm] at hI;have RN:=hI.mono (fun e w7 hh=>Log.inserted (by rw [eT];exact eN) hh);rw [eT] at RN;have HI:=dH RN;have KE:=dH Ra;have Hx:=dH qQ;clear qQ Ra Km hI RN Bf;have X6:=dH (X5.o.below KE.o X5.o.lt);rw [Hx.o] at X6;have c06:(w5.alloc (.cells #[.int .i64 x.st.1,.int .i64 x.st.2,.int .i64 x.seq,.int .i64 x.kind,.int .i64 x.node.1,.int .i64 x.node.2,.bool x.dir,.int .i64 x.par.1,.int .i64 x.par.2,.string (bs x.nm),.string (bs x.mf),.int .i64 0,.int .i64 0,.bool false,.int .i64 0,.int .i64 0,.string ⟨#[]⟩,.string ⟨#[]⟩,.bool false,.bool false] 84)).cell? ⟨p,0,none⟩=some (.slice A L.length c):=cell?_alloc_old c0 _;refine wp_region_held_drew (S:=(fun w'=>w'.cell? ⟨w.heap.size,0,none⟩=some (.int .i64 x.st.1)/\w'.cell? ⟨w.heap.size,1,none⟩=some (.int .i64 x.st.2)/\w'.cell? ⟨w.heap.size,2,none⟩=some (.int .i64 x.seq)/\w'.cell? ⟨w.heap.size,3,none⟩=some (.int .i64 x.kind)/\w'.cell? ⟨w.heap.size,4,none⟩=some (.int .i64 x.node.1)/\w'.cell? ⟨w.heap.size,5,none⟩=some (.int .i64 x.node.2)/\w'.cell? ⟨w.heap.size,6,none⟩=some (.bool x.dir)/\w'.cell? ⟨w.heap.size,7,none⟩=some (.int .i64 x.par.1)/\w'.cell? ⟨w.heap.size,8,none⟩=some (.int .i64 x.par.2)/\w'.cell? ⟨w.heap.size,9,none⟩=some (.string (bs x.nm))/\w'.cell? ⟨w.heap.size,10,none⟩=some (.string (bs x.mf)))) (by kernel_rfl) (eO (Blk.drew X5.o)) (fun dW=>?_);refine wpAnyH_take (i:=0) (v:=?_) rfl (by kernel_rfl) (by kernel_rfl) (by kernel_rfl) (fun _ _ _ h=>h) (Or.inl ⟨by first|(with_reducible rfl)|kernel_rfl,?_⟩) dW ?_
      rotate_left
      ·(intro w gF;(try dsimp only at gF);go_simp;first|done|with_reducible rfl)
      (try simp only [Act.put,aM,aJ,aL,aH,aD,aF])
      refine wpAnyH_take (i:=1) (v:=?_) rfl (by kernel_rfl) (by kernel_rfl) (by kernel_rfl) (fun _ _ _ h=>h) (Or.inl ⟨by first|(with_reducible rfl)|kernel_rfl,?_⟩) dW ?_
      rotate_left
      ·(intro w gF;(try dsimp only at gF);go_simp;first|done|with_reducible rfl)
      (try simp only [Act.put,aM,aJ,aL,aH,aD,aF])
      refine wpAnyH_take (i:=2) (v:=?_) rfl (by kernel_rfl) (by kernel_rfl) (by kernel_rfl) (fun _ _ _ h=>h) (Or.inl ⟨by first|(with_reducible rfl)|kernel_rfl,?_⟩) dW ?_
      rotate_left
      ·(intro w gF;(try dsimp only at gF);go_simp;first|done|with_reducible rfl)
      (try simp only [Act.put,aM,aJ,aL,aH,aD,aF])
      refine wpAnyH_take (i:=3) (v:=?_) rfl (by kernel_rfl) (by kernel_rfl) (by kernel_rfl) (fun _ _ _ h=>h) (Or.inl ⟨by first|(with_reducible rfl)|kernel_rfl,?_⟩) dW ?_
      rotate_left
      ·(intro w gF;(try dsimp only at gF);go_simp;first|done|with_reducible rfl)
      (try simp only [Act.put,aM,aJ,aL,aH,aD,aF])
      refine wpAnyH_take (i:=5) (v:=?_) rfl (by kernel_rfl) (by kernel_rfl) (by kernel_rfl) (fun _ _ _ h=>h) (Or.inl ⟨by first|(with_reducible rfl)|kernel_rfl,?_⟩) dW ?_
      rotate_left
      ·(intro w gF;(try dsimp only at gF);go_simp;first|done|with_reducible rfl)
      (try simp only [Act.put,aM,aJ,aL,aH,aD,aF])
      refine wpAnyH_take (i:=6) (v:=?_) rfl (by kernel_rfl) (by kernel_rfl) (by kernel_rfl) (fun _ _ _ h=>h) (Or.inl ⟨by first|(with_reducible rfl)|kernel_rfl,?_⟩) dW ?_
      rotate_left
      ·(intro w gF;(try dsimp only at gF);go_simp;first|done|with_reducible rfl)
      (try simp only [Act.put,aM,aJ,aL,aH,aD,aF])
      refine wpAnyH_take (i:=7) (v:=?_) rfl (by kernel_rfl) (by kernel_rfl) (by kernel_rfl) (fun _ _ _ h=>h) (Or.inl ⟨by first|(with_reducible rfl)|kernel_rfl,?_⟩) dW ?_
      rotate_left
      ·(intro w gF;(try dsimp only at gF);go_simp;first|done|with_reducible rfl)
      (try simp only [Act.put,aM,aJ,aL,aH,aD,aF])
      refine wpAnyH_ready (rs:=[4,8]) (by kernel_rfl) (by simp) ?_;refine AllReadyH.cons rfl (fun K hK=>?_) (AllReadyH.cons rfl (fun K hK=>?_) AllReadyH.nil);go_simp;refine hK.out _ _ (by (with_reducible first|exact eO X8.o|exact eO X7.o|exact eO X6.o|exact eO (Blk.drew X5.o))) (fun dW=>?_);clear hK K
      (try simp only [Act.put,aM,aJ,aL,aH,aD,aF])
      refine wpAnyH_ready (rs:=[8]) (by kernel_rfl) (by simp) ?_;refine AllReadyH.cons rfl (fun K hK=>?_) AllReadyH.nil;go_simp;refine hK.out _ _ (by (with_reducible first|exact eO X8.o|exact eO X7.o|exact eO X6.o|exact eO (Blk.drew X5.o))) (fun dW=>?_);clear hK K
      (try simp only [Act.put,aM,aJ,aL,aH,aD,aF])
      rotate_left
      go_simp;refine hK.out _ _ (by (with_reducible first|exact eO X8.o|exact eO X7.o|exact eO X6.o|exact eO (Blk.drew X5.o))) (fun dW=>?_);clear hK K
      (try simp only [Act.put,aM,aJ,aL,aH,aD,aF])
      refine wpAnyH_ready (rs:=[4]) (by kernel_rfl) (by simp) ?_;refine AllReadyH.cons rfl (fun K hK=>?_) AllReadyH.nil;go_simp;refine hK.out _ _ (by (with_reducible first|exact eO X8.o|exact eO X7.o|exact eO X6.o|exact eO (Blk.drew X5.o))) (fun dW=>?_);clear hK K
      (try simp only [Act.put,aM,aJ,aL,aH,aD,aF])
      rotate_left
      all_goals (
       refine wpAnyH_ready (rs:=[9]) (by kernel_rfl) (by simp) ?_;refine AllReadyH.cons rfl (fun K hK=>?_) AllReadyH.nil;go_simp;rw [<-Hx.o];refine HI.o.mono ?_;rintro e w7 ⟨A',_,c',rfl,rfl,Vq,hg7,aaH⟩;have HL7:=dH Vq;have HG7:=dH hg7;have ZF:=dH aaH;have Kf:=dH ((H5.o.stt.below KE.o).grownO hg7 (fun e=>H5.o.nep e.symm) (fun e=>H5.o.nem e.symm));have c7:=Kf.o.c0;have f7:=Kf.o.blk.frozen 0;have X7:=dH ((X5.o.below KE.o X5.o.lt).grown hg7 (fun e=>HXo.o e.symm));have X8:=dH (Blk.far X7.o (p:=⟨p,0,none⟩) HNp.o (.slice A' (L.length+1) c'));clear Vq hg7 aaH;refine hK.out _ _ (by (with_reducible first|exact eO X8.o|exact eO X7.o|exact eO X6.o|exact eO (Blk.drew X5.o))) (fun dW=>?_);clear hK K
       (try simp only [Act.put,aM,aJ,aL,aH,aD,aF])
       refine wpAnyH_take (i:=10) (v:=?_) rfl (by kernel_rfl) (by kernel_rfl) (by kernel_rfl) (fun _ _ _ h=>h) (Or.inl ⟨by first|(with_reducible rfl)|kernel_rfl,?_⟩) dW ?_
       rotate_left
       ·(intro w gF;(try dsimp only at gF);go_simp;first|done|with_reducible rfl)
       (try simp only [Act.put,aM,aJ,aL,aH,aD,aF])
       refine wpAnyH_take (i:=11) (v:=?_) rfl (by kernel_rfl) (by kernel_rfl) (by kernel_rfl) (fun _ _ _ h=>h) (Or.inl ⟨by first|(with_reducible rfl)|kernel_rfl,?_⟩) dW ?_
       rotate_left
       ·(intro w gF;(try dsimp only at gF);go_simp;first|done|with_reducible rfl)
       (try simp only [Act.put,aM,aJ,aL,aH,aD,aF])
       refine wpAnyH_ready (rs:=[12]) (by kernel_rfl) (by simp) ?_;refine AllReadyH.cons rfl (fun K hK=>?_) AllReadyH.nil;go_simp;refine hK.out _ _ (by (with_reducible first|exact eO X8.o|exact eO X7.o|exact eO X6.o|exact eO (Blk.drew X5.o))) (fun dW=>?_);clear hK K
       (try simp only [Act.put,aM,aJ,aL,aH,aD,aF])
       refine wpAnyH_done (by kernel_rfl) ?_ _;have ZG:zH (w7.setCell ⟨p,0,none⟩ (.slice A' (L.length+1) c')) B p m (.slice A' (L.length+1) c') ((L.length:Int) - (k:Int)) ((fJ L).take k++JQ x :: (fJ L).drop k) (iF (L.take k)):=by
        have hne:∀b,b < w5.heap.size->(Value.slice A L.length c).ownBlock≠some b->(Value.slice A' (L.length+1) c').ownBlock≠some b:=fun b hb h e=>by
         rcases ZF.o with h2|h2
         ·exact h (h2.symm.trans e)
         ·rw [h2] at e;have:=aa e;have h3:=KE.o.size;omega
        have hnp:=hne p H5.o.stt.blk.lt H5.o.nep;exact ⟨Kf.o.setV _,dN.apart HL7.o hnp _ _,hnp,hne m H5.o.stt.map.lt H5.o.nem⟩
       have hK9:fh w (w7.setCell ⟨p,0,none⟩ (.slice A' (L.length+1) c')) p m (.slice A L.length c):=
        ((K5.o.below KE.o).grownO HG7.o (fun g e=>.inl e)).grown (dh (dx w7 p) (.inl rfl) _) (.inl rfl)
       have ZH:∀g,(Value.slice A' (L.length+1) c').ownBlock=some g->(Value.slice A L.length c).ownBlock=some g\/w.heap.size<=g:=fun g e=>by
        rcases ZF.o with h2|h2
        ·exact .inl (h2.symm.trans e)
        ·rw [h2] at e;have:=aa e;have h3:=KE.o.size;have h4:=K5.o.size;exact .inr (by omega)
       have hH:qx ((fJ L).take k++JQ x :: (fJ L).drop k) (ox L x) k:=by
        have:=qx.start L x;rw [<-OI.o] at this;exact this
       have hlen':(ox L x).length=L.length+1:=MI L x;have jQ:iF (L.take k)=iF ((ox L x).take k):=by
        have:=zG L x;rw [<-OI.o] at this;rw [this]
       rw [jQ] at ZG;obtain ⟨w9,zj⟩:=dB (w7.setCell ⟨p,0,none⟩ (.slice A' (L.length+1) c'));rw [<-zj] at ZG hK9 ⊢;obtain ⟨LL,hLL⟩:=dB (ox L x);rw [<-hLL] at ZG hH hlen';have HH:=dH hH;have PF:=dH ZG;have Hy:=dH hK9;have ZI:=dH ZH;have HLL:=dH hLL;have BE:=dH hlen';clear zj ZG hK9 ZH hH hLL hlen' jQ c0 x0 x1 x2 x3 x4 x5 x6 x7 x8 x9 x10 c06 c7 f7 hd;go_wp2_with fail;go_loopw [9] (fun i wr=>∃(j:Nat) (R:List Rec),k<=j/\j<=L.length+1/\i=.int .i64 (j:Int)/\dG (qx R LL j)/\dG (zH wr B p m (.slice A' (L.length+1) c') ((L.length:Int) - (k:Int)) R (iF (LL.take j)))/\dG (fh w wr p m (.slice A L.length c))) (fun i _=>L.length+1 - (intOf i).toNat)
       case atStart=>exact ⟨k,_,aB _,by omega,rfl,HH,PF,Hy⟩
       case round=>
        obtain ⟨j,R,hj1,hj2,rfl,HHf,WW,Z4⟩:=hrel;have c0:=WW.o.stt.c0;rcases aG j (L.length+1) with hlt|hge
        ·have RV:R.length=L.length+1:=by rw [HHf.o.len,BE.o]
         have ZE:j < R.length:=by omega
         have hjl:j < LL.length:=by rw [BE.o];exact hlt
         have KF:=WW.o.log;rw [<-RV] at KF;obtain ⟨g,c2,e2,hown,hnc,hcm,BT,hfr⟩:=Log.at_ KF ZE;rw [RV] at hown;cases e2;rw [RV] at hnc;have OJ:p≠g:=fun e=>WW.o.nep (by rw [hown,e])
         have Kn:m≠g:=fun e=>WW.o.nem (by rw [hown,e])
         have hD:=Xd _ g (j*20) p m _ _ _ wr BT hfr OJ Kn WW.o.stt (by have:=oe (LL.take j);rw [aX] at this;omega);rw [HHf.o.at_ ZE] at hD;have HD:=dH hD;have VG:=dH hown;have HRl:=dH RV;have HJl:=dH hjl;have hlt2:(j:Int) < (L.length:Int)+1:=by omega
         clear hD hown BT hfr KF OJ Kn;go_wp2_with (go_at_call 40;refine HD.o.mono ?_;rintro e wd ⟨rfl,aaI⟩;have ZJ:=dH aaI;clear aaI)
         have hs2:=zH.did_ RV WW.o ZE ZJ.o;exact ⟨⟨j+1,_,by omega,by omega,by go_num,dH (HHf.o.next HJl.o),dH (by rw [vv HJl.o];exact hs2),dH (Z4.o.trans (ZJ.o.keep.toV VG.o) ZI.o)⟩,by simp [intOf];omega⟩
        ·obtain rfl:j=L.length+1:=by omega
         have hlt2:¬ ((L.length+1:Nat):Int) < (L.length:Int)+1:=by omega
         have hH:=HHf.o;have hS:=WW.o;rw [<-BE.o] at hH hS;rw [hH.all,bz] at hS;rw [BE.o] at hS;have HSf:=dH hS;clear hH hS;go_wp2_with fail;rw [<-HQ.o,eT];have hc:iU L x=0:=wA.2 ⟨HR.o,HHs.o.symm,by omega⟩;have hins:k9 L x=LL:=by unfold k9;rw [if_pos hc,HLL.o]
         refine ⟨_,(L.length:Int) - (k:Int),by rw [hc],?_,Z4.o,ZI.o,fun _=>by rw [OI.o],fun h=>absurd hc h⟩;rw [hins];exact ⟨HSf.o,by rw [<-hins];exact Cv HM.o.sorted x,by rw [BE.o];omega,HM.o.p_ge,HM.o.m_ge⟩
      )
end
end Go.Proofs.YtgdaahffmcfhpaaGreatDoor
