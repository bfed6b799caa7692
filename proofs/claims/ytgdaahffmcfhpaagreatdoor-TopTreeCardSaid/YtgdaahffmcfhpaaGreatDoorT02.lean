/- Lemmas on the way: OwnC AppC PShB PShC. -/
import Derived.Deep.Upon
import Derived.Deep.MidRow
import Derived.Laws.IdiomStrings
import Derived.Test.YtgdaahffmcfhpaaGreatDoorT01
import Derived.Test.YtgdaahffmcfhpaaGreatDoorT00
set_option maxRecDepth 100000
set_option maxHeartbeats 8000000
namespace Go.Proofs.YtgdaahffmcfhpaaGreatDoor
open Tryz
section
open Go.RowKit
structure dN (w:World) (B size:Nat) (v:Value) (n:Nat) (xs:List Value):Prop where
 len:xs.length=n*size
 is_:(v=.slice none 0 0/\n=0)\/∃g cap,v=.slice (some ⟨g,0,none⟩) n cap/\B<=g/\g < w.heap.size/\n<=cap/\cap<=maxLen/\(∀j,j < cap*size->(w.cell? ⟨g,j,none⟩).isSome=true)/\(∀j,j < cap*size->w.frozen? ⟨g,j,none⟩=false)/\(∀j u,xs[j]? =some u->w.cell? ⟨g,j,none⟩=some u)
section
variable {w w':World} {B size n:Nat} {v:Value} {xs:List Value}
theorem dN.nil_ (w:World) (B size:Nat):dN w B size (.slice none 0 0) 0 []:=⟨by simp,.inl ⟨rfl,rfl⟩⟩
theorem dN.of_row {e:TypeId} (h:w.ownsRow B e size v n xs):dN w B size v n xs:=by
 refine ⟨h.1,?_⟩;rcases h.2 with hn| ⟨g,cap,cur,rfl,hb,hg,hnc,hcm,hcs,ht⟩
 ·exact .inl hn
 ·refine .inr ⟨g,cap,rfl,hb,?_,hnc,hcm,fun j hj=>?_,fun j _=>?_,fun j u hu=>?_⟩
  ·rcases aG g w.heap.size with hlt|hge
   ·exact hlt
   ·rw [ak hge] at hg;cases hg
  ·rw [cell_of_row w g j cur e (0,0) hg,cK (by omega)];rfl
  ·simp [World.frozen?,hg]
  ·rw [cell_of_row w g j cur e (0,0) hg,<-cC]
   rw [<-ht,List.getElem?_take] at hu;split at hu
   ·exact hu
   ·cases hu
theorem dN.kept {row:Option Nat} (h:dN w B size v n xs) (hg:w.grownBy w' row) (hne:v.ownBlock=none\/v.ownBlock≠row):dN w' B size v n xs:=by
 refine ⟨h.1,?_⟩;rcases h.2 with hn| ⟨g,cap,rfl,hb,hlt,hnc,hcm,hs,hf,hx⟩
 ·exact .inl hn
 ·have hblk:w'.heap[g]? =w.heap[g]?:=hg.block g hlt (by simpa [Value.ownBlock] using hne)
  have hc:∀j,w'.cell? ⟨g,j,none⟩=w.cell? ⟨g,j,none⟩:=fun j=>aI (a:=⟨g,j,none⟩) hblk
  have hz:∀j,w'.frozen? ⟨g,j,none⟩=w.frozen? ⟨g,j,none⟩:=fun j=>World.frozen?_of_block (a:=⟨g,j,none⟩) hblk
  exact .inr ⟨g,cap,rfl,hb,aN hlt hg.size,hnc,hcm,fun j hj=>by rw [hc];exact hs j hj,fun j hj=>by rw [hz];exact hf j hj,fun j u hu=>by rw [hc];exact hx j u hu⟩
theorem dN.below (h:dN w B size v n xs) (hb:Below w.heap.size w w'):dN w' B size v n xs:=
 h.kept (eo hb none) (by
  rcases h.2 with ⟨rfl,_⟩| ⟨g,cap,rfl,_⟩
  ·exact .inl rfl
  ·exact .inr (by simp [Value.ownBlock]))
theorem dN.alloc (h:dN w B size v n xs) (o:Obj):dN (w.alloc o) B size v n xs:=h.below ((aC _ _).alloc (aB _) _)
theorem dN.drew (h:dN w B size v n xs):dN w.drew B size v n xs:=h.below (aC _ _).drew
theorem dN.mono {B':Nat} (h:dN w B size v n xs) (hB:B'<=B):dN w B' size v n xs:=by
 refine ⟨h.1,?_⟩;rcases h.2 with hn| ⟨g,cap,e,hb,rest⟩
 ·exact .inl hn
 ·exact .inr ⟨g,cap,e,aK hB hb,rest⟩
theorem dN.ge (h:dN w B size v n xs):∀k,v.ownBlock=some k->B<=k/\k < w.heap.size:=by
 intro k hk;rcases h.2 with ⟨rfl,_⟩| ⟨g,cap,rfl,hb,hlt,_⟩
 ·simp [Value.ownBlock] at hk
 ·simp [Value.ownBlock] at hk;subst hk;exact ⟨hb,hlt⟩
theorem dN.form (h:dN w B size v n xs) (hn:0 < n):∃g cap,v=.slice (some ⟨g,0,none⟩) n cap/\B<=g/\g < w.heap.size/\n<=cap/\cap<=maxLen/\(∀j u,xs[j]? =some u->w.cell? ⟨g,j,none⟩=some u)/\(∀j,j < cap*size->w.frozen? ⟨g,j,none⟩=false):=by
 rcases h.2 with ⟨_,h0⟩| ⟨g,cap,hv,hb,hlt,hnc,hcm,hs,hf,hx⟩
 ·omega
 ·exact ⟨g,cap,hv,hb,hlt,hnc,hcm,hx,hf⟩
theorem lU {a:World} {B0:Nat} (hb:Below B0 a w) (qK:B0<=B) (hs:B0<=w.heap.size) (h:dN w B size v n xs) (hg:w.grownBy w' v.ownBlock):Below B0 a w':=
 hb.grown hg hs (fun k hk=>aK qK (h.ge k hk).1)
end
section
variable {P:Program} (w:World)
theorem eF (b:Nat):∀(vs:List Value) (o:Nat) (w:World),(w.setCells b o vs).heap.size=w.heap.size
 | [],_,_=>rfl
 |v :: r,o,w=>by rw [World.setCells,eF b r];simp [World.setCell]
theorem ec (b:Nat):∀(vs:List Value) (o:Nat) (w:World),(w.setCells b o vs).tape=w.tape
 | [],_,_=>rfl
 |v :: r,o,w=>by rw [World.setCells,ec b r];rfl
theorem zu (t tx ty e:TypeId) (i:TypeInfo) (z:Value) (size:Nat) (ht:P.underlying t=some (.slice e)) (hi:P.info? e=some i) (hz:i.zero=some z) (hsize:i.size=size) (hzs:z.cells.size=size) (hsz:0 < size)
  (B:Nat) (v:Value) (n:Nat) (xs:List Value) (hown:dN w B size v n xs) (x:Value) (m:Nat) (news:List Value) (hsrc:Src P size tx x m news w)
  (h63:n+m<=maxLen) (hbytes:(n+m)*i.bytes<=140737488355328) (hB:B<=w.heap.size):
  ∃v' w',(Builtin.append_ #[t,tx] ty #[v,x]).run P w=.ok v' w'/\dN w' B size v' (n+m) (xs++news)/\w.grownBy w' v.ownBlock/\(v'.ownBlock=v.ownBlock\/v'.ownBlock=some w.heap.size):=by
 subst hsize;have hsmall:n+m<=9223372036854775807:=by simp only [maxLen] at h63;omega
 have hlen:(xs++news).length=(n+m)*i.size:=by rw [aO,hown.1,hsrc.newsLen,Nat.add_mul]
 have grown:∀(old:Nat) (row:Option Nat),
   dN (w.drew.alloc (.cells ((xs++news).toArray++Builtin.zeroCells z.cells (grownCap w (n+m) old e - (n+m))) e)) B i.size
    (.slice (some ⟨w.heap.size,0,none⟩) (n+m) (grownCap w (n+m) old e)) (n+m) (xs++news)/\
   w.grownBy (w.drew.alloc (.cells ((xs++news).toArray++Builtin.zeroCells z.cells (grownCap w (n+m) old e - (n+m))) e)) row:=by
  intro old row;have hge:=grownCap_ge w (n+m) old e;have hcm:grownCap w (n+m) old e<=maxLen:=grownCap_le_maxLen w (n+m) old e h63;refine ⟨dN.of_row (e:=e) ⟨hlen,.inr ⟨w.heap.size,_,_,rfl,hB,heap_alloc_new w.drew _,hge,hcm,?_,?_⟩⟩,⟨rfl,rfl,rfl,by simp,fun k hk _=>bE w.drew _ k hk⟩⟩
  ·simp only [Array.size_append,bG,size_zeroCells,hzs,hlen,<-Nat.add_mul]
   congr 1;omega
  ·simp only [Array.toList_append]
   rw [<-hlen];exact List.take_left
 rcases hown.2 with ⟨rfl,rfl⟩| ⟨g,cap,rfl,hbg,hlt,hnc,hcm,hs,hf,hx⟩
 ·obtain rfl:xs=[]:=bH (by simpa using hown.1)
  by_cases hm:m=0
  ·subst hm
   obtain rfl:news=[]:=bH (by simpa using hsrc.newsLen);exact ⟨_,_,run_append_nothing w t tx ty e i ht hi none 0 0 (aB _) x hsrc,by simpa using hown,dx _ _,.inl rfl⟩
  ·have hr:=run_append_grow_src (P:=P) w t tx ty e i z ht hi hz none 0 0 [] (run_firstCells_none w.drew i.size 0 0 0) x m news hsrc (by omega) (by omega) (growslice_fits (by omega) hbytes)
   have oy:=grown 0 (Value.ownBlock (.slice none 0 0));exact ⟨_,_,hr,oy.1,oy.2,.inr rfl⟩
 ·by_cases hroom:n+m<=cap
  ·have hl:n*i.size+news.length<=cap*i.size:=by rw [hsrc.newsLen,<-Nat.add_mul];exact bA _ hroom
   have hr:=run_append_room_src (P:=P) w t tx ty e i ht hi g 0 n cap x m news hsrc hroom (fun j hj=>by rw [aY];exact hs _ (by omega)) (fun j hj=>by rw [aY];exact hf _ (by omega));rw [aY] at hr;refine ⟨_,_,hr,⟨hlen,.inr ⟨g,cap,rfl,hbg,?_,hroom,hcm,fun j hj=>?_,fun j hj=>?_,fun j u hu=>?_⟩⟩,⟨?_,?_,?_,?_,fun k hk hne=>?_⟩,.inl rfl⟩
   ·rw [eF];exact hlt
   ·exact World.isSome_setCells g news _ w _ (hs j hj)
   ·rw [World.frozen?_setCells];exact hf j hj
   ·rcases aG j (n*i.size) with hj|hj
    ·rw [World.cell?_setCells_out _ _ _ _ _ (fun _ _=>.inl hj)]
     rw [bt (by rw [hown.1];exact hj)] at hu;exact hx j u hu
    ·rw [bu (by rw [hown.1];exact hj),hown.1] at hu
     obtain ⟨hj',rfl⟩:=cV.1 hu;have:=World.cell?_setCells_in g news (n*i.size) w (fun j hj=>hs _ (by omega)) (j - n*i.size) hj'
     rwa [show n*i.size+(j - n*i.size)=j from by omega] at this
   ·exact World.os_setCells _ _ _ _
   ·exact ec _ _ _ _
   ·exact World.output_setCells _ _ _ _
   ·rw [eF];exact aB _
   ·exact World.heap_setCells_other w g _ news hk (fun e=>hne (by rw [e];rfl))
  ·have hold:(Builtin.firstCells i.size n (.slice (some ⟨g,0,none⟩) n cap)).run P w.drew=.ok xs.toArray w.drew:=
    run_firstCells_some w.drew i.size n ⟨g,0,none⟩ n cap xs hown.1 (fun j u hu=>by
     have:=hx j u hu;have lF:(Addr.mk g 0 none).add j= ⟨g,j,none⟩:=by unfold Addr.add;split <;> simp_all
     rw [lF];exact this)
   have hr:=run_append_grow_src (P:=P) w t tx ty e i z ht hi hz (some ⟨g,0,none⟩) n cap xs hold x m news hsrc (by omega) (by omega) (growslice_fits (by omega) hbytes);have oy:=grown cap (Value.ownBlock (.slice (some ⟨g,0,none⟩) n cap));exact ⟨_,_,hr,oy.1,oy.2,.inr rfl⟩
theorem su {o:Oper} {a:Act} {K:Act->World->Prop} {Q:Exit->Act->World->Prop} (s y:Operand) (t tx:TypeId)
  (ho:o.op=.call { callee:=.builtin .append,args:=#[s,y],argTypes:=#[t,tx] })
  (e:TypeId) (i:TypeInfo) (z:Value) (size:Nat) (ht:P.underlying t=some (.slice e)) (hi:P.info? e=some i) (hz:i.zero=some z) (hsize:i.size=size) (hzs:z.cells.size=size) (hsz:0 < size)
  (B:Nat) (v:Value) (n:Nat) (xs:List Value) (hs:a.eval s=v) (hown:dN w B size v n xs) (x:Value) (hx:a.eval y=x) (m:Nat) (news:List Value) (hsrc:Src P size tx x m news w)
  (h63:n+m<=maxLen) (hbytes:(n+m)*i.bytes<=140737488355328) (hB:B<=w.heap.size)
  (h:∀v' w',dN w' B size v' (n+m) (xs++news)->w.grownBy w' v.ownBlock->(v'.ownBlock=v.ownBlock\/v'.ownBlock=some w.heap.size)->K (a.put o.dst v') w'):o.wp P a w K Q:=by
 obtain ⟨v',w',hr,h2,h3,h4⟩:=zu (P:=P) w t tx o.type e i z size ht hi hz hsize hzs hsz B v n xs hown x m news hsrc h63 hbytes hB;unfold Oper.wp execOp;simp only [ho,resolve,invoke,builtin,Sem.run_bind,Sem.run_pure,Result.andThen_ok,List.map_toArray,ai,List.map_nil,hs,hx,hr];exact h v' w' h2 h3 h4
theorem dZ {ops:Array Oper} {rest:List Oper} {o:Oper} {a:Act} {Q:Exit->Act->World->Prop} (hgd:o.guard=none) (s y:Operand) (t tx:TypeId)
  (ho:o.op=.call { callee:=.builtin .append,args:=#[s,y],argTypes:=#[t,tx] })
  (e:TypeId) (i:TypeInfo) (z:Value) (size:Nat) (ht:P.underlying t=some (.slice e)) (hi:P.info? e=some i) (hz:i.zero=some z) (hsize:i.size=size) (hzs:z.cells.size=size) (hsz:0 < size)
  (B:Nat) (v:Value) (n:Nat) (xs:List Value) (hs:a.eval s=v) (hown:dN w B size v n xs) (x:Value) (hx:a.eval y=x) (m:Nat) (news:List Value) (hsrc:Src P size tx x m news w)
  (h63:n+m<=maxLen) (hbytes:(n+m)*i.bytes<=140737488355328) (hB:B<=w.heap.size)
  (h:∀v' w',dN w' B size v' (n+m) (xs++news)->w.grownBy w' v.ownBlock->(v'.ownBlock=v.ownBlock\/v'.ownBlock=some w.heap.size)->wpList P ops Q rest (a.put o.dst v') w'):wpList P ops Q (o :: rest) a w:=
 wpList_plain hgd fun _ hK=>su w s y t tx ho e i z size ht hi hz hsize hzs hsz B v n xs hs hown x hx m news hsrc h63 hbytes hB fun v' w' h2 h3 h4=>hK _ _ (h v' w' h2 h3 h4)
end
structure jH (w:World) (v:Value) (w':World) (v':Value):Prop where
 by_:w.grownBy w' v.ownBlock
 at_:∀k,v'.ownBlock=some k->v.ownBlock=some k\/w.heap.size<=k
section
variable {w w' w2:World} {v v' v2:Value}
theorem jH.refl (w:World) (v:Value):jH w v w v:=⟨dx _ _,fun _ h=>.inl h⟩
theorem jH.trans (h:jH w v w' v') (k:jH w' v' w2 v2):jH w v w2 v2:=
 ⟨⟨k.1.os.trans h.1.os,k.1.tape.trans h.1.tape,k.1.output.trans h.1.output,aK h.1.size k.1.size,fun i hi hne=>(k.1.block i (aN hi h.1.size) (fun e=>by
  rcases h.2 i e.symm with h1|h1
  ·exact hne h1.symm
  ·omega)).trans (h.1.block i hi hne)⟩,
  fun q hq=>by
  rcases k.2 q hq with h1|h1
  ·exact h.2 q h1
  ·exact .inr (aK h.1.size h1)⟩
theorem jH.step {N:Nat} (h:w.grownBy w' v.ownBlock) (gE:v'.ownBlock=v.ownBlock\/v'.ownBlock=some N) (hN:w.heap.size<=N):jH w v w' v':=
 ⟨h,fun k hk=>by
  rcases gE with e|e
  ·exact .inl (e ▸ hk)
  ·rw [e] at hk;cases hk;exact .inr hN⟩
theorem jH.below (h:Below w.heap.size w w') (v:Value):jH w v w' v:=⟨eo h _,fun _ h=>.inl h⟩
theorem jH.alloc (w:World) (o:Obj) (v:Value):jH w v (w.alloc o) v:=.below ((aC _ _).alloc (aB _) _) v
theorem jH.blk (h:jH w v w' v') {g:Nat} {t:TypeId} {cs:Array Value} (hb:Blk w g t cs) (hne:v.ownBlock≠some g):Blk w' g t cs:=hb.grown h.1 (fun e=>hne e.symm)
theorem jH.toBelow (h:jH w v w' v') {B:Nat} {w0:World} (hb:Below B w0 w) (hs:B<=w.heap.size) (hB:∀k,v.ownBlock=some k->B<=k):Below B w0 w':=hb.grown h.1 hs hB
end
section
def bv (l:List UInt8):List Value:=l.map fun c=>Value.int .u8 (c.toNat:Int)
theorem oP (a b:List UInt8):bv (a++b)=bv a++bv b:=by simp [bv]
theorem XY {l:List UInt8} {j:Nat} {u:Value} (h:(bv l)[j]? =some u):∃hj:j < l.length,u=.int .u8 (l[j].toNat:Int):=by
 obtain ⟨hj,rfl⟩:=cV.1 h;have hj':j < l.length:=by simpa [bv] using hj
 exact ⟨hj',by simp [bv]⟩
theorem Src.one {P:Program} {w:World} {tx e':TypeId} (hk:P.underlying tx=some (.slice e')) {g c:Nat} {u:Value} (hc:w.cell? ⟨g,0,none⟩=some u) (h1:u.oneCell'=true):Src P 1 tx (.slice (some ⟨g,0,none⟩) 1 c) 1 [u] w:=
 Src.ofSlice w hk ⟨g,0,none⟩ 1 c [u] rfl (fun j v hv=>by
  match j,hv with
  |0,hv=>cases hv;exact hc) (fun x hx=>by cases aU.1 hx;exact h1)
theorem oQ (w:World) (e:TypeId) (l:List UInt8) (cap:Nat) (hc:l.length<=cap) (hm:cap<=maxLen):
  dN (w.alloc (.cells (bytesRow ⟨l.toArray⟩ cap) e ((bytesRow ⟨l.toArray⟩ cap).size,(bytesRow ⟨l.toArray⟩ cap).size+1))) w.heap.size 1 (.slice (some ⟨w.heap.size,0,none⟩) l.length cap) l.length (bv l):=by
 have hsz:(bytesRow ⟨l.toArray⟩ cap).size=cap:=by simp [bytesRow,ByteArray.size];omega
 refine ⟨by simp [bv],.inr ⟨w.heap.size,cap,rfl,aB _,by simp,hc,hm,fun j hj=>?_,fun j hj=>?_,fun j u hu=>?_⟩⟩
 ·rw [World.cell?_alloc_mark,cK (by rw [hsz];omega)];rfl
 ·rw [World.frozen?_alloc_mark,hsz];simp;omega
 ·obtain ⟨hj,rfl⟩:=XY hu
  rw [World.cell?_alloc_mark,bytesRow_at _ _ _ (by simpa using hj)];simp
theorem vF {P:Program} (w:World) {ops:Array Oper} {rest:List Oper} {o:Oper} {a:Act} {Q:Exit->Act->World->Prop} (hgd:o.guard=none) (src dst e:TypeId) (y:Operand) (ho:o.op=.convert src dst y)
  (hs:P.underlying src=some .string) (hd:P.underlying dst=some (.slice e)) (he:P.underlying e=some (.int .u8)) (l:List UInt8) (hy:a.eval y=.string ⟨l.toArray⟩) (hl:l.length<=maxLen)
  (h:∀g cap w',g=w.heap.size->dN w' w.heap.size 1 (.slice (some ⟨g,0,none⟩) l.length cap) l.length (bv l)->Below w.heap.size w w'->w'.heap.size=w.heap.size+1->wpList P ops Q rest (a.put o.dst (.slice (some ⟨g,0,none⟩) l.length cap)) w'):wpList P ops Q (o :: rest) a w:=
 wpList_plain hgd fun _ hK=>by
  have hr:=run_bytes_of_string (P:=P) w src dst e ⟨l.toArray⟩ hs hd he;have hge:=grownCap_ge w l.length 0 e;have hle:=grownCap_le_maxLen w l.length 0 e hl;have hown:=oQ w.drew e l _ hge hle;unfold Oper.wp execOp;simp only [ho,hy,Sem.run_bind,Sem.run_pure,Result.andThen_ok,hr];exact hK _ _ (h _ _ _ rfl hown (((aC _ w).drew).alloc (aB _) _) (by simp [World.alloc]))
end
end
section
open Go.RowKit
theorem xS {P:Program} {ops:Array Oper} {o:Oper} {a:Act} {w:World} {K:Act->World->Prop} {Q:Exit->Act->World->Prop} {E:Prop} (hgd:o.guard=none) (s y:Operand) (t tx:TypeId)
  (ho:o.op=.call { callee:=.builtin .append,args:=#[s,y],argTypes:=#[t,tx] })
  (e:TypeId) (i:TypeInfo) (z:Value) (size:Nat) (ht:P.underlying t=some (.slice e)) (hi:P.info? e=some i) (hz:i.zero=some z) (hsize:i.size=size) (hzs:z.cells.size=size) (hsz:0 < size)
  (B:Nat) (v:Value) (n:Nat) (xs:List Value) (hs:a.eval s=v) (hown:dN w B size v n xs) (x:Value) (hx:a.eval y=x) (m:Nat) (news:List Value) (hsrc:Src P size tx x m news w)
  (h63:n+m<=maxLen) (hbytes:(n+m)*i.bytes<=140737488355328) (hB:B<=w.heap.size)
  (h:∀v' w',dN w' B size v' (n+m) (xs++news)->w.grownBy w' v.ownBlock->(v'.ownBlock=v.ownBlock\/v'.ownBlock=some w.heap.size)->K (a.put o.dst v') w'):
  if Region.wanted o (yielded ops a.tmps)=true then Oper.wp P o a w K Q else E:=by
 have hw:Region.wanted o (yielded ops a.tmps)=true:=by simp [Region.wanted,hgd]
 rw [if_pos hw];exact su w s y t tx ho e i z size ht hi hz hsize hzs hsz B v n xs hs hown x hx m news hsrc h63 hbytes hB h
end
namespace Pt
open Go.RowKit
attribute [local go_sem] dO dL dQ dM
theorem Br:(prog.info? 5).map (fun i=>(i.zero,i.size,i.bytes))=some (some (.int .u8 0),1,1):=by kernel_rfl
def vG (x i:Nat):UInt8:=UInt8.ofNat (x / 2 ^ (56 - 8*i) % 256)
def vH (x:Nat):List UInt8:=(List.range 8).map (vG x)
theorem LC (x k:Nat) (h:k < 8):(vH x).take (k+1)=(vH x).take k++[vG x k]:=by
 have hl:k < (vH x).length:=by simp [vH];exact h
 rw [bF hl];simp [vH]
theorem IP (x k:Nat):((x:Int) / 2 ^ (56 - 8*k)) % 256=((vG x k).toNat:Int):=by
 have e:(x:Int) / 2 ^ (56 - 8*k)=((x / 2 ^ (56 - 8*k):Nat):Int):=by
  rw [Int.natCast_ediv,Int.natCast_pow];rfl
 rw [e];unfold vG;generalize x / 2 ^ (56 - 8*k)=y;simp
theorem Ph (x k:Nat):bv [vG x k]=[.int .u8 ((x:Int) / 2 ^ (56 - 8*k) % 256)]:=by simp [bv,IP]
theorem zv (B:Nat) (w:World) (v:Value) (n x:Nat) (l:List UInt8) (hown:dN w B 1 v n (bv l)) (hB:B<=w.heap.size) (hn:n<=1000000):
  Calls prog 316 #[v,.int .u64 x] w fun e w'=>∃v',e=.returned v'/\dN w' B 1 v' (n+8) (bv (l++vH x))/\jH w v w' v':=by
 obtain ⟨i0,hi,hz0,hz1,hz2⟩:=info_parts Br;have HI:=dH hi;have j9:=dH hz0;have gH:=dH hz1;have iH:=dH hz2;have HO:=dH hown;clear hi hz0 hz1 hz2 hown;go_enter func316,ntmps316;go_wp2_with fail;go_loopw [0,5] (fun v' i wr=>∃k:Nat,k<=8/\i=.int .i64 (56 - 8*(k:Int))/\dN wr B 1 v' (n+k) (bv (l++(vH x).take k))/\jH w v wr v') (fun _ i _=>(intOf i+8).toNat)
 case atStart=>exact ⟨0,by omega,by simp,by simpa using HO.o,jH.refl _ _⟩
 case round=>
  obtain ⟨k,hk,rfl,hown,hg⟩:=hrel;have eY:B<=wr.heap.size:=aK hB hg.1.size;have HO:=dH hown;have HG:=dH hg;clear hown hg;rcases aG k 8 with h8|h8
  ·have hge:(0:Int)<=56 - 8*(k:Int):=by omega
   have htn:(56 - 8*(k:Int)).toNat=56 - 8*k:=by omega
   go_wp2_with (at_builtin;refine dZ _ rfl (.tmp 10) (.tmp 15) 259 259 rfl 5 i0 (.int .u8 0) 1 underlying259 HI.o j9.o gH.o rfl (by decide) B _ (n+k) _ rfl (HO.o.alloc _) (.slice (some ⟨wr.heap.size,0,none⟩) 1 1) rfl 1 [.int .u8 ((x:Int) / 2 ^ (56 - 8*k) % 256)] ?c1 ?c3 ?c4 ?c5 ?_)
   case c1=>exact Src.one underlying259 (by simp) rfl
   case c3=>unfold maxLen;omega
   case c4=>rw [iH.o];omega
   case c5=>first|omega|(simp;omega)
   intro v' w1 hown' hgrow gE;have HO':=dH (show dN w1 B 1 v' (n+(k+1)) (bv (l++(vH x).take (k+1))) from by
    rw [LC x k h8,<-bK,oP,Ph];exact hown')
   have HG':=dH (HG.o.trans ((jH.alloc _ _ _).trans (jH.step hgrow gE (by simp))));clear hown' hgrow gE;go_wp2_with fail;exact ⟨⟨k+1,by omega,congrArg (Value.int .i64) (by omega),HO'.o,HG'.o⟩,by simp [intOf];omega⟩
  ·obtain rfl:k=8:=by omega
   go_wp2_with fail;go_ret;refine ⟨_,rfl,?_,HG.o⟩;have:=HO.o
   rwa [show (vH x).take 8=vH x from az (by simp [vH])] at this
end Pt
namespace Pt
open Go.RowKit
attribute [local go_sem] dO dL dQ dM
end Pt
end Go.Proofs.YtgdaahffmcfhpaaGreatDoor
