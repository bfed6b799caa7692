/- Lemmas on the way: OwnC AppC CopyC PShB PShC. -/
import Derived.Deep.Upon
import Derived.Deep.MidRow
import Derived.Laws.IdiomStrings
import Derived.Lib.AppendZerosOnto
import Derived.Lib.Overlaps
import Derived.Laws.IdiomCopy
import Derived.Laws.Externs
import Derived.Test.YtgdaahffmcfhpaaGreatDoorO01
set_option maxRecDepth 100000
set_option maxHeartbeats 8000000
namespace Go.Proofs.YtgdaahffmcfhpaaGreatDoor
open aA
open Tryz
section
open Go.RowKit
structure dQ (w:World) (B size:Nat) (v:Value) (n:Nat) (xs:List Value):Prop where
 len:xs.length=n*size
 is_:(v=.slice none 0 0/\n=0)\/∃g cap,v=.slice (some ⟨g,0,none⟩) n cap/\B<=g/\g < w.heap.size/\n<=cap/\cap<=maxLen/\(∀j,j < cap*size->(w.cell? ⟨g,j,none⟩).isSome=true)/\(∀j,j < cap*size->w.frozen? ⟨g,j,none⟩=false)/\(∀j u,xs[j]? =some u->w.cell? ⟨g,j,none⟩=some u)
section
variable {w w':World} {B size n:Nat} {v:Value} {xs:List Value}
theorem dQ.nil_ (w:World) (B size:Nat):dQ w B size (.slice none 0 0) 0 []:=⟨by simp,.inl ⟨rfl,rfl⟩⟩
theorem dQ.of_row {e:TypeId} (h:w.ownsRow B e size v n xs):dQ w B size v n xs:=by
 refine ⟨h.1,?_⟩;rcases h.2 with hn| ⟨g,cap,cur,rfl,hb,hg,hnc,hcm,hcs,ht⟩
 ·exact .inl hn
 ·refine .inr ⟨g,cap,rfl,hb,?_,hnc,hcm,λj hj=>?_,λj _=>?_,λj u hu=>?_⟩
  ·rcases aD g w with hlt|hge
   ·exact hlt
   ·rw [ax hge] at hg;cases hg
  ·rw [cell_of_row w g j cur e (0,0) hg,cG (by omega)];rfl
  ·simp [World.frozen?,hg]
  ·rw [cell_of_row w g j cur e (0,0) hg,<-cN]
   rw [<-ht,List.getElem?_take] at hu;split at hu
   ·exact hu
   ·cases hu
theorem dQ.kept {row:Option Nat} (h:dQ w B size v n xs) (hg:w.grownBy w' row) (hne:v.ownBlock=none\/v.ownBlock≠row):dQ w' B size v n xs:=by
 refine ⟨h.1,?_⟩;rcases h.2 with hn| ⟨g,cap,rfl,hb,hlt,hnc,hcm,hs,hf,hx⟩
 ·exact .inl hn
 ·have hblk:w'.heap[g]? =w.heap[g]?:=hg.block g hlt (by simpa [Value.ownBlock] using hne)
  have hc:∀j,w'.cell? ⟨g,j,none⟩=w.cell? ⟨g,j,none⟩:=λj=>aM (a:=⟨g,j,none⟩) hblk
  have hz:∀j,w'.frozen? ⟨g,j,none⟩=w.frozen? ⟨g,j,none⟩:=λj=>World.frozen?_of_block (a:=⟨g,j,none⟩) hblk
  exact .inr ⟨g,cap,rfl,hb,aN hlt hg.size,hnc,hcm,λj hj=>by rw [hc];exact hs j hj,λj hj=>by rw [hz];exact hf j hj,λj u hu=>by rw [hc];exact hx j u hu⟩
theorem dQ.below (h:dQ w B size v n xs) (hb:Below w w w'):dQ w' B size v n xs:=
 h.kept (fC hb none) (by
  rcases h.2 with ⟨rfl,_⟩| ⟨g,cap,rfl,_⟩
  ·exact .inl rfl
  ·exact .inr (by simp [Value.ownBlock]))
theorem dQ.alloc (h:dQ w B size v n xs) (o:Obj):dQ (w.alloc o) B size v n xs:=h.below ((aC _ _).alloc (aB _) _)
theorem dQ.drew (h:dQ w B size v n xs):dQ w.drew B size v n xs:=h.below (aC _ _).drew
theorem dQ.mono {B':Nat} (h:dQ w B size v n xs) (hB:B'<=B):dQ w B' size v n xs:=by
 refine ⟨h.1,?_⟩;rcases h.2 with hn| ⟨g,cap,e,hb,rest⟩
 ·exact .inl hn
 ·exact .inr ⟨g,cap,e,aI hB hb,rest⟩
theorem dQ.ge (h:dQ w B size v n xs):∀k,v.ownBlock=some k->B<=k/\k < w.heap.size:=by
 intro k hk;rcases h.2 with ⟨rfl,_⟩| ⟨g,cap,rfl,hb,hlt,_⟩
 ·simp [Value.ownBlock] at hk
 ·simp [Value.ownBlock] at hk;subst hk;exact ⟨hb,hlt⟩
theorem dQ.form (h:dQ w B size v n xs) (hn:0 < n):∃g cap,v=.slice (some ⟨g,0,none⟩) n cap/\B<=g/\g < w.heap.size/\n<=cap/\cap<=maxLen/\(∀j u,xs[j]? =some u->w.cell? ⟨g,j,none⟩=some u)/\(∀j,j < cap*size->w.frozen? ⟨g,j,none⟩=false):=by
 rcases h.2 with ⟨_,h0⟩| ⟨g,cap,hv,hb,hlt,hnc,hcm,hs,hf,hx⟩
 ·omega
 ·exact ⟨g,cap,hv,hb,hlt,hnc,hcm,hx,hf⟩
theorem iD {a:World} {B0:Nat} (hb:Below B0 a w) (yS:B0<=B) (hs:B0<=w.heap.size) (h:dQ w B size v n xs) (hg:w.grownBy w' v.ownBlock):Below B0 a w':=
 hb.grown hg hs (λk hk=>aI yS (h.ge k hk).1)
end
section
variable {P:Program} (w:World)
theorem eH (b:Nat):∀(vs:List Value) (o:Nat) (w:World),(w.setCells b o vs).heap.size=w.heap.size
 | [],_,_=>rfl
 |v :: r,o,w=>by rw [World.setCells,eH b r];simp [World.setCell]
theorem eS (b:Nat):∀(vs:List Value) (o:Nat) (w:World),(w.setCells b o vs).tape=w.tape
 | [],_,_=>rfl
 |v :: r,o,w=>by rw [World.setCells,eS b r];rfl
theorem BI (t tx ty e:TypeId) (i:TypeInfo) (z:Value) (size:Nat) (ht:P.underlying t=some (.slice e)) (hi:P.info? e=some i) (hz:i.zero=some z) (hsize:i.size=size) (hzs:z.cells.size=size) (hsz:0 < size)
  (B:Nat) (v:Value) (n:Nat) (xs:List Value) (hown:dQ w B size v n xs) (x:Value) (m:Nat) (news:List Value) (hsrc:Src P size tx x m news w)
  (h63:n+m<=maxLen) (hbytes:(n+m)*i.bytes<=140737488355328) (hB:B<=w.heap.size):
  ∃v' w',(Builtin.append_ #[t,tx] ty #[v,x]).run P w=.ok v' w'/\dQ w' B size v' (n+m) (xs++news)/\w.grownBy w' v.ownBlock/\(v'.ownBlock=v.ownBlock\/v'.ownBlock=some w.heap.size):=by
 subst hsize;have hsmall:n+m<=9223372036854775807:=by simp only [maxLen] at h63;omega
 have hlen:(xs++news).length=(n+m)*i.size:=by rw [aP,hown.1,hsrc.newsLen,Nat.add_mul]
 have grown:∀(old:Nat) (row:Option Nat),
   dQ (w.drew.alloc (.cells ((xs++news).toArray++Builtin.zeroCells z.cells (grownCap w (n+m) old e - (n+m))) e)) B i.size
    (.slice (some w) (n+m) (grownCap w (n+m) old e)) (n+m) (xs++news)/\
   w.grownBy (w.drew.alloc (.cells ((xs++news).toArray++Builtin.zeroCells z.cells (grownCap w (n+m) old e - (n+m))) e)) row:=by
  intro old row;have hge:=grownCap_ge w (n+m) old e;have hcm:grownCap w (n+m) old e<=maxLen:=grownCap_le_maxLen w (n+m) old e h63;refine ⟨dQ.of_row (e:=e) ⟨hlen,.inr ⟨w.heap.size,_,_,rfl,hB,heap_alloc_new w.drew _,hge,hcm,?_,?_⟩⟩,⟨rfl,rfl,rfl,by simp,λk hk _=>bM w.drew _ k hk⟩⟩
  ·simp only [Array.size_append,bW,size_zeroCells,hzs,hlen,<-Nat.add_mul]
   congr 1;omega
  ·simp only [Array.toList_append]
   rw [<-hlen];exact List.take_left
 rcases hown.2 with ⟨rfl,rfl⟩| ⟨g,cap,rfl,hbg,hlt,hnc,hcm,hs,hf,hx⟩
 ·obtain rfl:xs=[]:=az (by simpa using hown.1)
  by_cases hm:m=0
  ·subst hm
   obtain rfl:news=[]:=az (by simpa using hsrc.newsLen);exact ⟨_,_,run_append_nothing w t tx ty e i ht hi none 0 0 (aB _) x hsrc,by simpa using hown,dz _ _,.inl rfl⟩
  ·have hr:=run_append_grow_src (P:=P) w t tx ty e i z ht hi hz none 0 0 [] (run_firstCells_none w.drew i.size 0 0 0) x m news hsrc (by omega) (by omega) (growslice_fits (by omega) hbytes)
   have qK:=grown 0 (Value.ownBlock (.slice none 0 0));exact ⟨_,_,hr,qK.1,qK.2,.inr rfl⟩
 ·by_cases hroom:n+m<=cap
  ·have hl:n*i.size+news.length<=cap*i.size:=by rw [hsrc.newsLen,<-Nat.add_mul];exact bA _ hroom
   have hr:=run_append_room_src (P:=P) w t tx ty e i ht hi g 0 n cap x m news hsrc hroom (λj hj=>by rw [aV];exact hs _ (by omega)) (λj hj=>by rw [aV];exact hf _ (by omega));rw [aV] at hr;refine ⟨_,_,hr,⟨hlen,.inr ⟨g,cap,rfl,hbg,?_,hroom,hcm,λj hj=>?_,λj hj=>?_,λj u hu=>?_⟩⟩,⟨?_,?_,?_,?_,λk hk hne=>?_⟩,.inl rfl⟩
   ·rw [eH];exact hlt
   ·exact World.isSome_setCells g news _ w _ (hs j hj)
   ·rw [World.frozen?_setCells];exact hf j hj
   ·rcases aD j (n*i.size) with hj|hj
    ·rw [World.cell?_setCells_out _ _ _ _ _ (λ_ _=>.inl hj)]
     rw [bY (by rw [hown.1];exact hj)] at hu;exact hx j u hu
    ·rw [bt (by rw [hown.1];exact hj),hown.1] at hu
     obtain ⟨hj',rfl⟩:=cR.1 hu;have:=World.cell?_setCells_in g news (n*i.size) w (λj hj=>hs _ (by omega)) (j - n*i.size) hj'
     rwa [show n*i.size+(j - n*i.size)=j from by omega] at this
   ·exact World.os_setCells _ _ _ _
   ·exact eS _ _ _ _
   ·exact World.output_setCells _ _ _ _
   ·rw [eH];exact aB _
   ·exact World.heap_setCells_other w g _ news hk (λe=>hne (by rw [e];rfl))
  ·have hold:(Builtin.firstCells i.size n (.slice (some g) n cap)).run P w.drew=.ok xs.toArray w.drew:=
    run_firstCells_some w.drew i.size n ⟨g,0,none⟩ n cap xs hown.1 (λj u hu=>by
     have:=hx j u hu;have kL:(Addr.mk g 0 none).add j= ⟨g,j,none⟩:=by unfold Addr.add;split <;> simp_all
     rw [kL];exact this)
   have hr:=run_append_grow_src (P:=P) w t tx ty e i z ht hi hz (some ⟨g,0,none⟩) n cap xs hold x m news hsrc (by omega) (by omega) (growslice_fits (by omega) hbytes);have qK:=grown cap (Value.ownBlock (.slice (some g) n cap));exact ⟨_,_,hr,qK.1,qK.2,.inr rfl⟩
variable {Q:Exit->Act->World->Prop}
theorem uG{o:Oper} {a:Act} {K:Act->World->Prop} (s y:Operand) (t tx:TypeId)
  (ho:o.op=.call { callee:=.builtin .append,args:=#[s,y],argTypes:=#[t,tx] })
  (e:TypeId) (i:TypeInfo) (z:Value) (size:Nat) (ht:P.underlying t=some (.slice e)) (hi:P.info? e=some i) (hz:i.zero=some z) (hsize:i.size=size) (hzs:z.cells.size=size) (hsz:0 < size)
  (B:Nat) (v:Value) (n:Nat) (xs:List Value) (hs:a.eval s=v) (hown:dQ w B size v n xs) (x:Value) (hx:a.eval y=x) (m:Nat) (news:List Value) (hsrc:Src P size tx x m news w)
  (h63:n+m<=maxLen) (hbytes:(n+m)*i.bytes<=140737488355328) (hB:B<=w.heap.size)
  (h:∀v' w',dQ w' B size v' (n+m) (xs++news)->w.grownBy w' v.ownBlock->(v'.ownBlock=v.ownBlock\/v'.ownBlock=some w.heap.size)->K (a.put o.dst v') w'):o.wp P a w K Q:=by
 obtain ⟨v',w',hr,h2,h3,h4⟩:=BI (P:=P) w t tx o.type e i z size ht hi hz hsize hzs hsz B v n xs hown x m news hsrc h63 hbytes hB;unfold Oper.wp execOp;simp only [ho,resolve,invoke,builtin,Sem.run_bind,Sem.run_pure,Result.andThen_ok,List.map_toArray,bB,List.map_nil,hs,hx,hr];exact h v' w' h2 h3 h4
theorem dW{ops:Array Oper} {rest:List Oper} {o:Oper} {a:Act} (hgd:o.guard=none) (s y:Operand) (t tx:TypeId)
  (ho:o.op=.call { callee:=.builtin .append,args:=#[s,y],argTypes:=#[t,tx] })
  (e:TypeId) (i:TypeInfo) (z:Value) (size:Nat) (ht:P.underlying t=some (.slice e)) (hi:P.info? e=some i) (hz:i.zero=some z) (hsize:i.size=size) (hzs:z.cells.size=size) (hsz:0 < size)
  (B:Nat) (v:Value) (n:Nat) (xs:List Value) (hs:a.eval s=v) (hown:dQ w B size v n xs) (x:Value) (hx:a.eval y=x) (m:Nat) (news:List Value) (hsrc:Src P size tx x m news w)
  (h63:n+m<=maxLen) (hbytes:(n+m)*i.bytes<=140737488355328) (hB:B<=w.heap.size)
  (h:∀v' w',dQ w' B size v' (n+m) (xs++news)->w.grownBy w' v.ownBlock->(v'.ownBlock=v.ownBlock\/v'.ownBlock=some w.heap.size)->wpList P ops Q rest (a.put o.dst v') w'):wpList P ops Q (o :: rest) a w:=
 wpList_plain hgd λ_ hK=>uG w s y t tx ho e i z size ht hi hz hsize hzs hsz B v n xs hs hown x hx m news hsrc h63 hbytes hB λv' w' h2 h3 h4=>hK _ _ (h v' w' h2 h3 h4)
end
structure jH (w:World) (v:Value) (w':World) (v':Value):Prop where
 by_:w.grownBy w' v.ownBlock
 at_:∀k,v'.ownBlock=some k->v.ownBlock=some k\/w.heap.size<=k
section
variable {w w' w2:World} {v v' v2:Value}
theorem jH.refl (w:World) (v:Value):jH w v w v:=⟨dz _ _,λ_ h=>.inl h⟩
theorem jH.trans (h:jH w v w' v') (k:jH w' v' w2 v2):jH w v w2 v2:=
 ⟨⟨k.1.os.trans h.1.os,k.1.tape.trans h.1.tape,k.1.output.trans h.1.output,aI h.1.size k.1.size,λi hi hne=>(k.1.block i (aN hi h.1.size) (λe=>by
  rcases h.2 i e.symm with h1|h1
  ·exact hne h1.symm
  ·omega)).trans (h.1.block i hi hne)⟩,
  λq hq=>by
  rcases k.2 q hq with h1|h1
  ·exact h.2 q h1
  ·exact .inr (aI h.1.size h1)⟩
theorem jH.step {N:Nat} (h:w.grownBy w' v.ownBlock) (fR:v'.ownBlock=v.ownBlock\/v'.ownBlock=some N) (hN:w.heap.size<=N):jH w v w' v':=
 ⟨h,λk hk=>by
  rcases fR with e|e
  ·exact .inl (e ▸ hk)
  ·rw [e] at hk;cases hk;exact .inr hN⟩
theorem jH.below (h:Below w w w') (v:Value):jH w v w' v:=⟨fC h _,λ_ h=>.inl h⟩
theorem jH.alloc (w:World) (o:Obj) (v:Value):jH w v (w.alloc o) v:=.below ((aC _ _).alloc (aB _) _) v
theorem jH.drew (w:World) (v:Value):jH w v w.drew v:=.below (aC _ _).drew v
theorem jH.blk (h:jH w v w' v') {g:Nat} {t:TypeId} {cs:Array Value} (hb:Blk w g t cs) (hne:v.ownBlock≠some g):Blk w' g t cs:=hb.grown h.1 (λe=>hne e.symm)
theorem jH.toBelow (h:jH w v w' v') {B:Nat} {w0:World} (hb:Below B w0 w) (hs:B<=w.heap.size) (hB:∀k,v.ownBlock=some k->B<=k):Below B w0 w':=hb.grown h.1 hs hB
end
section
def bv (l:List UInt8):List Value:=l.map λc=>Value.int .u8 (c.toNat:Int)
theorem pN (a b:List UInt8):bv (a++b)=bv a++bv b:=by simp [bv]
variable {u v:Value}
theorem Zs{l:List UInt8} {j:Nat} (h:(bv l)[j]? =some u):∃hj:j < l.length,u=.int .u8 (l[j].toNat:Int):=by
 obtain ⟨hj,rfl⟩:=cR.1 h;have hj':j < l.length:=by simpa [bv] using hj
 exact ⟨hj',by simp [bv]⟩
variable {P:Program} {w:World}
theorem Src.one {tx e':TypeId} (hk:P.underlying tx=some (.slice e')) {g c:Nat} (hc:w.cell? g=some u) (h1:u.oneCell'=true):Src P 1 tx (.slice (some g) 1 c) 1 [u] w:=
 Src.ofSlice w hk ⟨g,0,none⟩ 1 c [u] rfl (λj v hv=>by
  match j,hv with
  |0,hv=>cases hv;exact hc) (λx hx=>by cases aW.1 hx;exact h1)
theorem Src.own {B size:Nat} {tx e':TypeId} (hk:P.underlying tx=some (.slice e')) {n:Nat} {xs:List Value} (h:dQ w B size v n xs) (h1:∀u∈xs,u.oneCell'=true):Src P size tx v n xs w:=by
 rcases h.2 with ⟨rfl,rfl⟩| ⟨g,cap,rfl,hb,hlt,hnc,hcm,hs,hf,hx⟩
 ·obtain rfl:xs=[]:=az (by simpa using h.1)
  exact Src.ofNil w hk 0
 ·exact Src.ofSlice w hk ⟨g,0,none⟩ n cap xs h.1 (λj u hu=>by
   have kL:(Addr.mk g 0 none).add j= ⟨g,j,none⟩:=by unfold Addr.add;split <;> simp_all
   rw [kL];exact hx j u hu) h1
theorem pO (w:World) (e:TypeId) (l:List UInt8) (cap:Nat) (hc:l.length<=cap) (hm:cap<=maxLen):
  dQ (w.alloc (.cells (bytesRow ⟨l.toArray⟩ cap) e ((bytesRow ⟨l.toArray⟩ cap).size,(bytesRow ⟨l.toArray⟩ cap).size+1))) w 1 (.slice (some w) l.length cap) l.length (bv l):=by
 have hsz:(bytesRow ⟨l.toArray⟩ cap).size=cap:=by simp [bytesRow,ByteArray.size];omega
 refine ⟨by simp [bv],.inr ⟨w.heap.size,cap,rfl,aB _,by simp,hc,hm,λj hj=>?_,λj hj=>?_,λj u hu=>?_⟩⟩
 ·rw [World.cell?_alloc_mark,cG (by rw [hsz];omega)];rfl
 ·rw [World.frozen?_alloc_mark,hsz];simp;omega
 ·obtain ⟨hj,rfl⟩:=Zs hu
  rw [World.cell?_alloc_mark,bytesRow_at _ _ _ (by simpa using hj)];simp
theorem wN (w:World) {ops:Array Oper} {rest:List Oper} {o:Oper} {a:Act} {Q:Exit->Act->World->Prop} (hgd:o.guard=none) (src dst e:TypeId) (y:Operand) (ho:o.op=.convert src dst y)
  (hs:P.underlying src=some .string) (hd:P.underlying dst=some (.slice e)) (he:P.underlying e=some (.int .u8)) (l:List UInt8) (hy:a.eval y=.string ⟨l.toArray⟩) (hl:l.length<=maxLen)
  (h:∀g cap w',g=w.heap.size->dQ w' w 1 (.slice (some ⟨g,0,none⟩) l.length cap) l.length (bv l)->Below w w w'->w'.heap.size=w.heap.size+1->wpList P ops Q rest (a.put o.dst (.slice (some ⟨g,0,none⟩) l.length cap)) w'):wpList P ops Q (o :: rest) a w:=
 wpList_plain hgd λ_ hK=>by
  have hr:=run_bytes_of_string (P:=P) w src dst e ⟨l.toArray⟩ hs hd he;have hge:=grownCap_ge w l.length 0 e;have hle:=grownCap_le_maxLen w l.length 0 e hl;have hown:=pO w.drew e l _ hge hle;unfold Oper.wp execOp;simp only [ho,hy,Sem.run_bind,Sem.run_pure,Result.andThen_ok,hr];exact hK _ _ (h _ _ _ rfl hown (((aC _ w).drew).alloc (aB _) _) (by simp [World.alloc]))
end
end
section
open Go.RowKit
theorem zB {P:Program} {ops:Array Oper} {o:Oper} {a:Act} {w:World} {K:Act->World->Prop} {Q:Exit->Act->World->Prop} {E:Prop} (hgd:o.guard=none) (s y:Operand) (t tx:TypeId)
  (ho:o.op=.call { callee:=.builtin .append,args:=#[s,y],argTypes:=#[t,tx] })
  (e:TypeId) (i:TypeInfo) (z:Value) (size:Nat) (ht:P.underlying t=some (.slice e)) (hi:P.info? e=some i) (hz:i.zero=some z) (hsize:i.size=size) (hzs:z.cells.size=size) (hsz:0 < size)
  (B:Nat) (v:Value) (n:Nat) (xs:List Value) (hs:a.eval s=v) (hown:dQ w B size v n xs) (x:Value) (hx:a.eval y=x) (m:Nat) (news:List Value) (hsrc:Src P size tx x m news w)
  (h63:n+m<=maxLen) (hbytes:(n+m)*i.bytes<=140737488355328) (hB:B<=w.heap.size)
  (h:∀v' w',dQ w' B size v' (n+m) (xs++news)->w.grownBy w' v.ownBlock->(v'.ownBlock=v.ownBlock\/v'.ownBlock=some w.heap.size)->K (a.put o.dst v') w'):
  if Region.wanted o (yielded ops a.tmps)=true then Oper.wp P o a w K Q else E:=by
 have hw:Region.wanted o (yielded ops a.tmps)=true:=by simp [Region.wanted,hgd]
 rw [if_pos hw];exact uG w s y t tx ho e i z size ht hi hz hsize hzs hsz B v n xs hs hown x hx m news hsrc h63 hbytes hB h
end
section
open Go.RowKit
section
variable {P:Program}
theorem ep (w:World) (dT sT ty elem:TypeId) (size:Nat) (b o dLen dCap:Nat) (a:Addr) (sLen sCap:Nat) (cs:List Value)
  (hu:P.underlying dT=some (.slice elem)) (hs:(P.info? elem).map (·.size)=some size) (hn:cs.length=Nat.min sLen dLen*size)
  (hsrc:∀j v,cs[j]? =some v->w.cell? (a.add j)=some v) (hc:∀j,j < cs.length->(w.cell? ⟨b,o+j,none⟩).isSome=true) (hf:∀j,j < cs.length->w.frozen? ⟨b,o+j,none⟩=false) (h1:∀v∈cs,v.oneCell'=true):
  (Builtin.copy_ #[dT,sT] ty #[.slice (some ⟨b,o,none⟩) dLen dCap,.slice (some a) sLen sCap]).run P w=.ok (goInt (Nat.min sLen dLen:Nat)) (w.setCells b o cs):=by
 have hl:=run_loadCells_list (P:=P) w a cs hsrc;have hst:=run_storeCells_cells (P:=P) b o cs 0 w (by simpa using hc) (by simpa using hf) h1;cases hq:P.info? elem with
 |none=>simp [hq] at hs
 |some i=>
  have hi:i.size=size:=by simpa [hq] using hs
  simp only [bZ] at hst;rw [hn] at hl;simp [Builtin.copy_,run_underlying hu,Builtin.lenOf,Builtin.firstCells,sizeOf,typeInfo,hq,hi,hl,hst]
variable {a:Act} {K:Act->World->Prop} {Q:Exit->Act->World->Prop} {v':Value} {w' w:World}
theorem BJ(w:World) {o:Oper} (d s:Operand) (t t':TypeId)
  (ho:o.op=.call { callee:=.builtin .copy,args:=#[d,s],argTypes:=#[t,t'] }) (v u:Value) (hd:a.eval d=v) (hs:a.eval s=u)
  (hr:(Builtin.copy_ #[t,t'] o.type #[v,u]).run P w=.ok v' w') (h:K (a.put o.dst v') w'):o.wp P a w K Q:=by
 unfold Oper.wp execOp;simp only [ho,resolve,invoke,builtin,Sem.run_bind,Sem.run_pure,Result.andThen_ok,List.map_toArray,bB,List.map_nil,hd,hs,hr];exact h
theorem ew(w:World) {ops:Array Oper} {rest:List Oper} {o:Oper} (hgd:o.guard=none) (d s:Operand) (t t':TypeId)
  (ho:o.op=.call { callee:=.builtin .copy,args:=#[d,s],argTypes:=#[t,t'] }) (v u:Value) (hd:a.eval d=v) (hs:a.eval s=u)
  (hr:(Builtin.copy_ #[t,t'] o.type #[v,u]).run P w=.ok v' w') (h:wpList P ops Q rest (a.put o.dst v') w'):wpList P ops Q (o :: rest) a w:=
 wpList_plain hgd λ_ hK=>BJ w d s t t' ho v u hd hs hr (hK _ _ h)
theorem gL{ops:Array Oper} {o:Oper} {E:Prop}
  (hg:o.guard=none) (d x:Operand) (dT sT:TypeId) (hop:o.op=Op.call { callee:=Callee.builtin Builtin.copy,args:=#[d,x],argTypes:=#[dT,sT] })
  (v u:Value) (hd:a.eval d=v) (hx:a.eval x=u) (hr:(Builtin.copy_ #[dT,sT] o.type #[v,u]).run P w=.ok v' w') (hK:K (a.put o.dst v') w'):
  if Region.wanted o (yielded ops a.tmps)=true then Oper.wp P o a w K Q else E:=by
 have hw:Region.wanted o (yielded ops a.tmps)=true:=by simp [Region.wanted,hg]
 rw [if_pos hw];unfold Oper.wp;simp [execOp,hop,resolve,invoke,builtin,hd,hx,hr,Result.andThen];exact hK
end
section
variable {w:World} {B size g cap n k:Nat} {cs vs:List Value}
theorem mL {w:World} {g:Nat} {u:Value} (h:w.cell? g=some u):∃t m,w.shape? g=some (t,m)/\m≠0:=by
 unfold World.cell? at h;cases hq:w.heap[g]? with
 |none=>simp [hq] at h
 |some o=>
  cases o with
  |cells c t mk=>
   simp [hq] at h;refine ⟨t,c.size,by simp [World.shape?,hq],λh0=>?_⟩;rw [ax (by omega)] at h;cases h
  |_=>simp [hq] at h
theorem Blk.shape {t:TypeId} {c:Array Value} (h:Blk w g t c):w.shape? g=some (t,c.size):=by
 unfold Blk at h;simp [World.shape?,h]
theorem fA (b:Nat):∀(vs:List Value) (o:Nat) (w w':World),w.heap=w'.heap->(w.setCells b o vs).heap=(w'.setCells b o vs).heap
 | [],_,_,_,h=>h
 |v :: r,o,w,w',h=>by
  rw [World.setCells,World.setCells];exact fA b r (o+1) _ _ (by simp [World.setCell,h])
theorem dQ.heap_eq {v:Value} {w w':World} (h:dQ w B size v n cs) (e:w'.heap=w.heap):dQ w' B size v n cs:=by
 have hc:∀a,w'.cell? a=w.cell? a:=λa=>by unfold World.cell?;rw [e]
 have hz:∀a,w'.frozen? a=w.frozen? a:=λa=>by unfold World.frozen?;rw [e]
 refine ⟨h.1,?_⟩;rcases h.2 with hn| ⟨g,cap,rfl,hb,hlt,hnc,hcm,hs,hf,hx⟩
 ·exact .inl hn
 ·exact .inr ⟨g,cap,rfl,hb,by rw [e];exact hlt,hnc,hcm,λj hj=>by rw [hc];exact hs j hj,λj hj=>by rw [hz];exact hf j hj,λj u hu=>by rw [hc];exact hx j u hu⟩
theorem fu (b:Nat) (vs:List Value) (o:Nat) (w:World):(w.setCells b o vs).os=w.os:=World.os_setCells _ _ _ _
theorem fV (b:Nat) (vs:List Value) (o:Nat) (w:World):(w.setCells b o vs).output=w.output:=World.output_setCells _ _ _ _
theorem rM {cs vs:List Value} (hcl:cs.length=n*size) (hvl:vs.length=size) (hk:k<=n) (f:Nat->Option Value)
  (h1:∀j u,j < k*size->cs[j]? =some u->f j=some u) (h2:∀j u,vs[j]? =some u->f (k*size+j)=some u) (h3:∀j u,(cs.drop (k*size))[j]? =some u->f ((k+1)*size+j)=some u):
  ∀j u,(cs.take (k*size)++(vs++cs.drop (k*size)))[j]? =some u->f j=some u:=by
 intro j u hu;have hkl:k*size<=n*size:=bA _ hk;have htl:(cs.take (k*size)).length=k*size:=by rw [aR,hcl];omega
 have hk1:(k+1)*size=k*size+size:=Nat.succ_mul _ _;rcases aD j (k*size) with hj|hj
 ·rw [bY (by omega),bf hj] at hu
  exact h1 j u hj hu
 ·rw [bt (by omega),htl] at hu
  rcases aD (j - k*size) size with hj2|hj2
  ·rw [bY (by omega)] at hu
   have:=h2 _ u hu
   rwa [show k*size+(j - k*size)=j by omega] at this
  ·rw [bt (by omega),hvl] at hu
   have:=h3 _ u hu
   rwa [show (k+1)*size+(j - k*size - size)=j by omega] at this
theorem wO {cs vs:List Value} (hcl:cs.length=n*size) (hvl:vs.length=size) (hk:k<=n):(cs.take (k*size)++(vs++cs.drop (k*size))).length=(n+1)*size:=by
 have hkl:k*size<=n*size:=bA _ hk;have hk1:(n+1)*size=n*size+size:=Nat.succ_mul _ _;simp only [aP,aR,ah,hcl,hvl];omega
theorem su (hcl:cs.length=n*size) (hvl:vs.length=size) (hk:k<=n) (hroom:n+1<=cap) (hB:B<=g) (hlt:g < w.heap.size) (hcm:cap<=maxLen)
  (hs:∀j,j < cap*size->(w.cell? ⟨g,j,none⟩).isSome=true) (hf:∀j,j < cap*size->w.frozen? ⟨g,j,none⟩=false) (hx:∀j u,cs[j]? =some u->w.cell? ⟨g,j,none⟩=some u):
  dQ ((w.setCells g ((k+1)*size) (cs.drop (k*size))).setCells g (k*size) vs) B size (.slice (some g) (n+1) cap) (n+1) (cs.take (k*size)++(vs++cs.drop (k*size)))/\
  w.grownBy ((w.setCells g ((k+1)*size) (cs.drop (k*size))).setCells g (k*size) vs) (some g):=by
 have hkl:k*size<=n*size:=bA _ hk;have hk1:(k+1)*size=k*size+size:=Nat.succ_mul _ _;have qX:(n+1)*size=n*size+size:=Nat.succ_mul _ _;have hcs:(n+1)*size<=cap*size:=bA _ hroom;have vw:(cs.drop (k*size)).length=n*size - k*size:=by rw [ah,hcl]
 have hs1:∀j,j < cap*size->((w.setCells g ((k+1)*size) (cs.drop (k*size))).cell? ⟨g,j,none⟩).isSome=true:=λj hj=>World.isSome_setCells g _ _ w _ (hs j hj)
 refine ⟨⟨wO hcl hvl hk,.inr ⟨g,cap,rfl,hB,?_,hroom,hcm,λj hj=>World.isSome_setCells g _ _ _ _ (hs1 j hj),λj hj=>by rw [World.frozen?_setCells,World.frozen?_setCells];exact hf j hj,?_⟩⟩,?_⟩
 ·rw [eH,eH];exact hlt
 ·refine rM hcl hvl hk (λj=>((w.setCells g ((k+1)*size) (cs.drop (k*size))).setCells g (k*size) vs).cell? ⟨g,j,none⟩) (λj u hj hu=>?_) (λj u hu=>?_) (λj u hu=>?_)
  ·show World.cell? _ _=_
   rw [World.cell?_setCells_out _ _ _ _ _ (λ_ _=>.inl hj),World.cell?_setCells_out _ _ _ _ _ (λ_ _=>.inl (by show j < _;omega))];exact hx j u hu
  ·obtain ⟨hj,rfl⟩:=cR.1 hu
   exact World.cell?_setCells_in g vs (k*size) _ (λi hi=>hs1 _ (by omega)) j hj
  ·obtain ⟨hj,rfl⟩:=cR.1 hu
   show World.cell? _ _=_;rw [World.cell?_setCells_out _ _ _ _ _ (λ_ _=>.inr (by show _<=(k+1)*size+j;omega))];exact World.cell?_setCells_in g (cs.drop (k*size)) ((k+1)*size) _ (λi hi=>hs _ (by omega)) j hj
 ·exact ⟨by rw [World.os_setCells,World.os_setCells],by rw [eS,eS],by rw [World.output_setCells,World.output_setCells],by rw [eH,eH];exact aB _,λi hi hne=>by
   rw [World.heap_setCells_other _ g _ vs (by rw [eH];exact hi) (λe=>hne (by rw [e])),World.heap_setCells_other _ g _ _ hi (λe=>hne (by rw [e]))]⟩
theorem sw {W:World} (hcl:cs.length=n*size) (hvl:vs.length=size) (hk:k<=n) (hroom:n+1<=cap) (hB:B<=g) (hlt:g < W.heap.size) (hcm:cap<=maxLen)
  (hs:∀j,j < cap*size->(W.cell? ⟨g,j,none⟩).isSome=true) (hf:∀j,j < cap*size->W.frozen? ⟨g,j,none⟩=false) (hx:∀j u,j < k*size->cs[j]? =some u->W.cell? ⟨g,j,none⟩=some u):
  dQ ((W.setCells g (k*size) vs).setCells g ((k+1)*size) (cs.drop (k*size))) B size (.slice (some g) (n+1) cap) (n+1) (cs.take (k*size)++(vs++cs.drop (k*size)))/\
  W.grownBy ((W.setCells g (k*size) vs).setCells g ((k+1)*size) (cs.drop (k*size))) (some g):=by
 have hkl:k*size<=n*size:=bA _ hk;have hk1:(k+1)*size=k*size+size:=Nat.succ_mul _ _;have qX:(n+1)*size=n*size+size:=Nat.succ_mul _ _;have hcs:(n+1)*size<=cap*size:=bA _ hroom;have vw:(cs.drop (k*size)).length=n*size - k*size:=by rw [ah,hcl]
 have hs1:∀j,j < cap*size->((W.setCells g (k*size) vs).cell? ⟨g,j,none⟩).isSome=true:=λj hj=>World.isSome_setCells g _ _ W _ (hs j hj)
 refine ⟨⟨wO hcl hvl hk,.inr ⟨g,cap,rfl,hB,?_,hroom,hcm,λj hj=>World.isSome_setCells g _ _ _ _ (hs1 j hj),λj hj=>by rw [World.frozen?_setCells,World.frozen?_setCells];exact hf j hj,?_⟩⟩,?_⟩
 ·rw [eH,eH];exact hlt
 ·refine rM hcl hvl hk (λj=>((W.setCells g (k*size) vs).setCells g ((k+1)*size) (cs.drop (k*size))).cell? ⟨g,j,none⟩) (λj u hj hu=>?_) (λj u hu=>?_) (λj u hu=>?_)
  ·show World.cell? _ _=_
   rw [World.cell?_setCells_out _ _ _ _ _ (λ_ _=>.inl (by show j < _;omega)),World.cell?_setCells_out _ _ _ _ _ (λ_ _=>.inl hj)];exact hx j u hj hu
  ·obtain ⟨hj,rfl⟩:=cR.1 hu
   show World.cell? _ _=_;rw [World.cell?_setCells_out _ _ _ _ _ (λ_ _=>.inl (by show k*size+j < _;omega))];exact World.cell?_setCells_in g vs (k*size) _ (λi hi=>hs _ (by omega)) j hj
  ·obtain ⟨hj,rfl⟩:=cR.1 hu
   exact World.cell?_setCells_in g (cs.drop (k*size)) ((k+1)*size) _ (λi hi=>hs1 _ (by omega)) j hj
 ·exact ⟨by rw [World.os_setCells,World.os_setCells],by rw [eS,eS],by rw [World.output_setCells,World.output_setCells],by rw [eH,eH];exact aB _,λi hi hne=>by
   rw [World.heap_setCells_other _ g _ _ (by rw [eH];exact hi) (λe=>hne (by rw [e])),World.heap_setCells_other _ g _ _ hi (λe=>hne (by rw [e]))]⟩
end
end
namespace Pt
open Go.RowKit
attribute [local go_sem] dR dO dS dP
theorem D5:(prog.info? 5).map (λi=>(i.zero,i.size,i.bytes))=some (some (.int .u8 0),1,1):=by kernel_rfl
def wP (x i:Nat):UInt8:=UInt8.ofNat (x / 2 ^ (56 - 8*i) % 256)
def wQ (x:Nat):List UInt8:=(List.range 8).map (wP x)
theorem N5 (x k:Nat) (h:k < 8):(wQ x).take (k+1)=(wQ x).take k++[wP x k]:=by
 have hl:k < (wQ x).length:=by simp [wQ];exact h
 rw [ay hl];simp [wQ]
theorem Jq (x k:Nat):((x:Int) / 2 ^ (56 - 8*k)) % 256=((wP x k).toNat:Int):=by
 have e:(x:Int) / 2 ^ (56 - 8*k)=((x / 2 ^ (56 - 8*k):Nat):Int):=by
  rw [Int.natCast_ediv,Int.natCast_pow];rfl
 rw [e];unfold wP;generalize x / 2 ^ (56 - 8*k)=y;simp
theorem Rf (x k:Nat):bv [wP x k]=[.int .u8 ((x:Int) / 2 ^ (56 - 8*k) % 256)]:=by simp [bv,Jq]
theorem BK (B:Nat) (w:World) (v:Value) (n x:Nat) (l:List UInt8) (hown:dQ w B 1 v n (bv l)) (hB:B<=w.heap.size) (hn:n<=1000000):
  Calls prog 316 #[v,.int .u64 x] w λe w'=>∃v',e=.returned v'/\dQ w' B 1 v' (n+8) (bv (l++wQ x))/\jH w v w' v':=by
 obtain ⟨i0,hi,hz0,hz1,hz2⟩:=info_parts D5;have HI:=dL hi;have gx:=dL hz0;have gJ:=dL hz1;have gT:=dL hz2;have HO:=dL hown;clear hi hz0 hz1 hz2 hown;go_enter func316,ntmps316;go_wp2_with fail;go_loopw [0,5] (λv' i wr=>∃k:Nat,k<=8/\i=.int .i64 (56 - 8*(k:Int))/\dQ wr B 1 v' (n+k) (bv (l++(wQ x).take k))/\jH w v wr v') (λ_ i _=>(intOf i+8).toNat)
 case atStart=>exact ⟨0,by omega,by simp,by simpa using HO.o,jH.refl _ _⟩
 case round=>
  obtain ⟨k,hk,rfl,hown,hg⟩:=hrel;have fD:B<=wr.heap.size:=aI hB hg.1.size;have HO:=dL hown;have HG:=dL hg;clear hown hg;rcases aD k 8 with h8|h8
  ·have hge:(0:Int)<=56 - 8*(k:Int):=by omega
   have htn:(56 - 8*(k:Int)).toNat=56 - 8*k:=by omega
   go_wp2_with (at_builtin;refine dW _ rfl (.tmp 10) (.tmp 15) 259 259 rfl 5 i0 (.int .u8 0) 1 underlying259 HI.o gx.o gJ.o rfl (by decide) B _ (n+k) _ rfl (HO.o.alloc _) (.slice (some wr) 1 1) rfl 1 [.int .u8 ((x:Int) / 2 ^ (56 - 8*k) % 256)] ?c1 ?c3 ?c4 ?c5 ?_)
   case c1=>exact Src.one underlying259 (by simp) rfl
   case c3=>unfold maxLen;omega
   case c4=>rw [gT.o];omega
   case c5=>first|omega|(simp;omega)
   intro v' w1 hown' hgrow fR;have HO':=dL (show dQ w1 B 1 v' (n+(k+1)) (bv (l++(wQ x).take (k+1))) from by
    rw [N5 x k h8,<-bx,pN,Rf];exact hown')
   have HG':=dL (HG.o.trans ((jH.alloc _ _ _).trans (jH.step hgrow fR (by simp))));clear hown' hgrow fR;go_wp2_with fail;exact ⟨⟨k+1,by omega,congrArg (Value.int .i64) (by omega),HO'.o,HG'.o⟩,by simp [intOf];omega⟩
  ·obtain rfl:k=8:=by omega
   go_wp2_with fail;go_ret;refine ⟨_,rfl,?_,HG.o⟩;have:=HO.o
   rwa [show (wQ x).take 8=wQ x from af (by simp [wQ])] at this
end Pt
namespace Pt
open Go.RowKit
attribute [local go_sem] dR dO dS dP
end Pt
end Go.Proofs.YtgdaahffmcfhpaaGreatDoor
