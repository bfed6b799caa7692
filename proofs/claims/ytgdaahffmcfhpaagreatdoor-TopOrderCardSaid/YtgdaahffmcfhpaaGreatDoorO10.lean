/- Lemmas on the way: StrL PCut. -/
import Derived.Test.YtgdaahffmcfhpaaGreatDoorO07
import Derived.Test.YtgdaahffmcfhpaaGreatDoorO09
set_option maxRecDepth 100000
set_option maxHeartbeats 8000000
namespace Go.Proofs.YtgdaahffmcfhpaaGreatDoor
open aA
open Tryz
section
open Go.RowKit
def strs (l:List (List UInt8)):List Value:=l.map λs=>Value.string (bs s)
theorem oa (a b:List (List UInt8)):strs (a++b)=strs a++strs b:=by simp [strs]
def StC (cs:List Value) (s:List UInt8):Prop:=cs=[.string (bs s)]/\s.length<=9223372036854775807
abbrev Strs (w:World) (A:Option Addr) (n c:Nat) (xs:List (List UInt8)):Prop:=Sl w 1 StC A n c xs
variable {w:World} {xs:List (List UInt8)}
theorem Strs.at_ {A:Option Addr} {n c k:Nat} (h:Strs w A n c xs) (hk:k < xs.length):
  ∃b off,A=some ⟨b,off,none⟩/\b < w.heap.size/\w.cell? ⟨b,off+k,none⟩=some (.string (bs xs[k]))/\xs[k].length<=9223372036854775807:=by
 obtain ⟨b,off,cs,e,hlt,hl,⟨rfl,hm⟩,hc⟩:=h.4 k hk;refine ⟨b,off,e,hlt,?_,hm⟩;have:=hc 0 _ rfl;simpa using this
abbrev fm (w:World) (B:Nat) (v:Value) (xs:List (List UInt8)):Prop:=dQ w B 1 v xs.length (strs xs)
def nM (xs:List (List UInt8)):Prop:=∀x∈xs,x.length<=9223372036854775807
theorem fm.strs {w:World} {B:Nat} {v:Value} {xs:List (List UInt8)} (h:fm w B v xs) (hs:nM xs):∃A c,v=.slice A xs.length c/\Strs w A xs.length c xs:=by
 rcases h.2 with ⟨rfl,h0⟩| ⟨g,cap,rfl,hb,hlt,hnc,hcm,_,_,hx⟩
 ·obtain rfl:xs=[]:=az h0
  exact ⟨none,0,rfl,Sl.nil_⟩
 ·refine ⟨_,cap,rfl,rfl,hnc,by unfold maxLen at hcm;omega,λi hi=> ⟨g,0,[.string (bs xs[i])],rfl,hlt,rfl,⟨rfl,hs _ (aa hi)⟩,λj u hu=>?_⟩⟩
  match j,hu with
  |0,hu=>
   cases hu;have:=hx i (.string (bs xs[i])) (by simp [Go.Proofs.YtgdaahffmcfhpaaGreatDoor.strs,hi]);simpa using this
theorem fm.snoc {B:Nat} {v:Value} {x:List UInt8} (h:dQ w B 1 v (xs.length+1) (Go.Proofs.YtgdaahffmcfhpaaGreatDoor.strs xs++[.string (bs x)])):fm w B v (xs++[x]):=by
 unfold fm;rw [oa,aP];exact h
end
namespace Pt
open Go.RowKit Go.Shelf
attribute [local go_sem] Oper.semAt_some
def piece (d:List UInt8) (k:Nat):List UInt8:=(d.drop (256*k)).take 256
def cutL (d:List UInt8):List (List UInt8):=(List.range (pieces d.length)).map (piece d)
theorem DL:(prog.info? 9).map (λi=>(i.zero,i.size,i.bytes))=some (some (.string ⟨#[]⟩),1,16):=by kernel_rfl
theorem KA (w:World) (l:List UInt8) (hl:l.length<=maxLen):∃cap w',(convert 9 259 (.string (bs l))).run prog w=.ok (.slice (some w) l.length cap) w'/\
  dQ w' w 1 (.slice (some w) l.length cap) l.length (bv l)/\Below w w w'/\w'.heap.size=w.heap.size+1:=by
 have hr:=run_bytes_of_string (P:=prog) w 9 259 5 (bs l) underlying9 underlying259 underlying5;rw [dR] at hr;have hge:=grownCap_ge w l.length 0 5;have hle:=grownCap_le_maxLen w l.length 0 5 hl;exact ⟨_,_,hr,pO w.drew 5 l _ hge hle,((aC _ w).drew).alloc (aB _) _,by simp [World.alloc]⟩
variable {w W:World} {n g B b:Nat}
theorem KB {d:List UInt8} (hc:∀j u,(bv d)[j]? =some u->W.cell? ⟨g,j,none⟩=some u) (k:Nat):
  (convert 259 9 (Uo g d.length k)).run prog W=.ok (.string (bs (piece d k))) W:=by
 unfold Uo;by_cases h:256*k < d.length
 ·rw [if_pos h]
  have hl:(piece d k).length=min 256 (d.length - 256*k):=by simp [piece]
  have:=run_convert_bytes_back (P:=prog) W 259 9 5 ⟨g,256*k,none⟩ (min 256 (d.length - 256*k)) (piece d k) underlying259 underlying5 underlying9 (λj hj=>by
   have e:(Addr.mk g (256*k) none).add j= ⟨g,256*k+j,none⟩:=by unfold Addr.add;split <;> simp_all
   rw [e];refine hc _ _ ?_;have hj2:256*k+j < d.length:=by rw [hl] at hj;omega
   simp [bv,piece,bh hj2])
  rw [hl] at this;exact this
 ·rw [if_neg h]
  have hp:piece d k=[]:=by unfold piece;rw [List.drop_of_length_le (by omega)];rfl
  rw [hp];have:=run_convert_bytes_string (P:=prog) W 259 9 5 none 0 0 underlying259 underlying5 underlying9;rw [this];simp [go_sem,bs];rfl
variable {v:Value} {xs:List Value}
theorem wV {B':Nat} {e:TypeId} {size:Nat} (h:w.ownsRow B e size v n xs) (hB:B'<=B):w.ownsRow B' e size v n xs:=by
 refine ⟨h.1,?_⟩;rcases h.2 with hn| ⟨g,cap,cur,rfl,hb,r⟩
 ·exact .inl hn
 ·exact .inr ⟨g,cap,cur,rfl,aI hB hb,r⟩
theorem WB {e:TypeId} {size:Nat} (h:w.ownsRow B e size v n xs):∀k,v.ownBlock=some k->B<=k:=by
 intro k hk;rcases h.2 with ⟨rfl,_⟩| ⟨g,cap,cur,rfl,hb,_⟩
 ·simp [Value.ownBlock] at hk
 ·simp [Value.ownBlock] at hk;subst hk;exact hb
theorem qi{w1:World} {M:Nat} {v':Value} {tmp:Obj} {e:TypeId} {size:Nat} (hrow:W.ownsRow M e size v n xs) (hgrow:(W.alloc tmp).grownBy w1 v.ownBlock) (hb:b < M) (hlt:b < W.heap.size) (hne:b≠B):(w1.setCell B v').heap[b]? =W.heap[b]?:=by
 refine (bU w1 ⟨B,0,none⟩ v' b hne).trans ?_;refine (hgrow.block b (by simp;omega) (λe=>?_)).trans (bM W tmp b hlt);have:=WB hrow b e.symm;omega
theorem zC{β:Type} {o:Option Obj} (hb:b < B) (hs:∀(W:World),W.heap[b]? =o->b < W.heap.size):OwnFrom B (λ(_:β) W=>W.heap[b]? =o):=
 λ_ W W' row h hg hr=>(hg.block b (hs W h) (λe=>by have:=(hr b e.symm).1;omega)).trans h
theorem WC (F:Fence) (n:Nat) (h12:F.fn 118) (h24:F.fn 181) (Zo:F.fn 254) (hro:F.round=none) (hn:3<=n) (d:List UInt8) (hd:d.length<=1000000) (w:World):
  CallsIn F n prog 118 #[d] w λe w'=>∃v,e=.returned v/\w'.ownsRow w 9 1 v (cutL d).length (strs (cutL d))/\Below w w w':=by
 have h1:1<=n:=by omega
 obtain ⟨i0,hi,hz0,hz1,hz2⟩:=info_parts DL;refine callsIn_of_wp_marks func118 rfl h12 ?_ hro;simp only [ntmps118,bW,aY,bE,Nat.reduceAdd,Nat.reduceSub,Array.replicate_succ,Array.replicate_zero,List.push_toArray,List.append_toArray,ak,bC];have bO:=Boxed.new w 99 (.slice none 0 0);have gH:=dH w (.cells #[()] 99);obtain ⟨yg,w2,hr,Cy,dY,hs2⟩:=KA (w.alloc (.cells #[()] 99)) d (by unfold maxLen;omega);rw [World.size_alloc] at hr Cy dY hs2;have zW:=dL Cy;have eA:=dL dY;have CQ:=dL hs2;have HBO:=dL bO;have eR:=dL gH;clear Cy dY hs2 bO gH;gi_wp2_with (gi_at_call 181;refine (Fq F (n - 1) h24 hro _ _ _ _).mono ?_;rintro e w' ⟨rfl,rfl⟩);have kP:Below w w ((w2.alloc (.cells #[.slice (some ⟨w.heap.size+1,0,none⟩) d.length yg] 259)).alloc (.cells #[(256:Int)] 3)):=
  ((eR.o.trans (eA.o.mono (bF _))).alloc (by have:=CQ.o;omega) _).alloc (by have:=CQ.o;simp;omega) _
 have bS:=Boxed.alloc (Boxed.new w2 259 (.slice (some ⟨w.heap.size+1,0,none⟩) d.length yg)) (.cells #[(256:Int)] 3);have bN:=Boxed.new (w2.alloc (.cells #[.slice (some ⟨w.heap.size+1,0,none⟩) d.length yg] 259)) 3 (.int .i64 256);rw [World.size_alloc] at bN;have bO4:Boxed ((w2.alloc (.cells #[.slice (some ⟨w.heap.size+1,0,none⟩) d.length yg] 259)).alloc (.cells #[(256:Int)] 3)) w 99 (.slice none 0 0):=by
  refine Boxed.alloc (Boxed.alloc ?_ _) _;exact (eA.o.block _ (by omega)).trans HBO.o
 have Td:=dQ.alloc (dQ.alloc zW.o (.cells #[.slice (some ⟨w.heap.size+1,0,none⟩) d.length yg] 259)) (.cells #[(256:Int)] 3);have hsz:((w2.alloc (.cells #[.slice (some ⟨w.heap.size+1,0,none⟩) d.length yg] 259)).alloc (.cells #[(256:Int)] 3)).heap.size=w.heap.size+4:=by have:=CQ.o;simp;omega
 have hs2:=CQ.o;obtain ⟨w4,rE⟩:=dG ((w2.alloc (.cells #[.slice (some ⟨w.heap.size+1,0,none⟩) d.length yg] 259)).alloc (.cells #[(256:Int)] 3));rw [hs2] at bS bN ⊢;rw [<-rE] at kP bS bN bO4 Td hsz ⊢;clear rE hr zW eA CQ HBO eR hs2;have hcap:d.length<=yg/\yg<=9223372036854775807/\(∀j u,(bv d)[j]? =some u->w4.cell? ⟨w.heap.size+1,j,none⟩=some u):=by
  rcases Td.2 with ⟨h,_⟩| ⟨g,cap,h,_,_,h1,h2,_,_,h3⟩
  ·cases h
  ·simp only [Value.slice.injEq,Option.some.injEq,Addr.mk.injEq,true_and,and_true] at h
   obtain ⟨rfl,rfl⟩:=h;exact ⟨h1,by unfold maxLen at h2;exact h2,h3⟩
 obtain ⟨hc1,hc2,hc3⟩:=hcap;refine wpIn_rangeFunc_ownG hro h1 (gf:=254) (lb:=#[.pointer (some ⟨w.heap.size+1+1,0,none⟩),.pointer (some ⟨w.heap.size+1+1+1,0,none⟩)]) rfl Zo (enters_of func254 (by kernel_rfl) rfl)
  (DK F (n - 1) Zo hro (by omega) (w.heap.size+1+1) (w.heap.size+1+1+1) (w.heap.size+1) d.length yg _ (λ_=>rfl) hc1 hd hc2 w4 (by omega) (by omega) bS.cell bN.cell) Kept.trans (Kept.book (by omega) (by omega)) (aC _ _) (λ_=>rfl)
  (λ(pre:List Nat) W=>((∃v,Boxed W w 99 v/\W.ownsRow w4 9 1 v pre.length (strs (pre.map (piece d)))/\True)/\Below w w W)/\W.heap[w.heap.size+1]? =w4.heap[w.heap.size+1]?/\w4.heap.size<=W.heap.size)
  (λ_ _ _=>False)
  (OwnFrom.and (OwnFrom.and (Own.from (holdsRow_own w4 w 99 9 1 (λpre:List Nat=>pre.length) (λpre=>strs (pre.map (piece d))) (λ_ _=>True)) _) (ownFrom_below (aB _) (by omega))) (OwnFrom.and (zC (by omega) (λW h=>by
   rcases aD (w.heap.size+1) W with hlt|hge
   ·exact hlt
   ·rw [ax hge,cG (by omega)] at h;cases h)) (λ_ _ _ _ h hg _=>aI h hg.size)))
  (λ_ _ _ _ _ hs _ _=>hs)
  ⟨⟨⟨_,bO4,World.ownsRow_nil _ _ _ _,trivial⟩,kP⟩,rfl,aB _⟩
  (λk=>{ tmps:=#[.string (bs d),undef,.slice none 0 0,.pointer (some w),Uo (w.heap.size+1) d.length k,.string (bs d),.slice (some ⟨w.heap.size+1,0,none⟩) d.length yg,.func (.func 254) #[] #[.pointer (some ⟨w.heap.size+1+1,0,none⟩),.pointer (some ⟨w.heap.size+1+1+1,0,none⟩)],Uo (w.heap.size+1) d.length k,undef,undef,undef,undef,undef,undef],defers:=[] }) ?assign ?body ?done ?stop
 case assign=>
  intro l x W K hK;gi_wp2;exact hK
 case body=>
  rintro l pre x W ⟨⟨⟨v,hv,hrow,_⟩,hB⟩,hg,hge⟩ hlt;have hc:=hv.cell;have VA:=KB (W:=W) (g:=w.heap.size+1) (d:=d) (λj u hu=>(aM (a:=⟨w.heap.size+1,j,none⟩) hg).trans (hc3 j u hu)) x;generalize Uo (w.heap.size+1) d.length x=pv at*;have hpl:pieces d.length<=4000:=by unfold pieces;omega
  gi_wp2_with (gi_at_builtin;refine wpListIn_append_own _ rfl _ _ 99 rfl w4.heap.size 9 i0 (.string ⟨#[]⟩) 1 16 underlying99 hi hz0 hz1 hz2 rfl (by decide) _ _ _ rfl (hrow.alloc _) ⟨W.heap.size,0,none⟩ 1 1 [.string (bs (piece d x))] rfl rfl (cell_one_new _ _ _) (by simp [Value.oneCell']) (by unfold maxLen;omega) (by omega) (by simp;omega) ?_;intro v' w1 hown' hgrow _;obtain ⟨g',cap',rfl⟩:=ownsRow_succ hown';obtain ⟨CR,RI,hr2,hk2,dY⟩:=hv.appended (by decide) (wV hrow (B':=w.heap.size) (by omega)) hB.size (aB _) (wV hown' (B':=w.heap.size) (by omega)) hgrow;have hc1:=CR.cell;have Cp:=CR.frozen);refine ⟨hk2.from _,⟨qi hrow hgrow (by omega) (by omega) (by omega),qi hrow hgrow (by omega) (by omega) (by omega)⟩,⟨⟨_,RI,?_,trivial⟩,hB.trans dY⟩,(qi hrow hgrow (by omega) (by omega) (by omega)).trans hg,aI hge hk2.size⟩;have JU:=hown'.kept (grownBy_setCell' w1 w (.slice (some g') (pre.length+1) cap')) (.inr (CR.not_row (by decide) hown').symm);rw [bQ,oa,aP];exact JU
 case done=>
  rintro D ys W hD rfl ⟨⟨⟨v,hv,hrow,_⟩,hB⟩,_⟩ hK;have hc:=hv.cell;gi_wp2;refine ⟨by simp,.inl ⟨_,_,rfl,run_takeDeferred hK,?_⟩⟩;refine ⟨_,results_tmp rfl _ _ _,v,rfl,?_,hB.trans (belowK_b (w:=w) (aB _) W D _ _ (by omega) hK rfl rfl)⟩;have:=wV (ownsRow_putObj hrow (.deferred none) hK rfl) (B':=w.heap.size) (by omega);rw [List.length_range] at this;unfold cutL;rw [bJ,List.length_range];exact this
 case stop=>
  rintro D c pre W _ _ h _;exact h.elim
theorem cut_any (d:List UInt8) (hd:d.length<=1000000) (w:World):
  Calls prog 118 #[d] w λe w'=>∃v,e=.returned v/\w'.ownsRow w 9 1 v (cutL d).length (strs (cutL d))/\Below w w w':=
 (callsIn_wide (n:=5)).1 (WC Fence.wide 5 trivial trivial trivial rfl (by omega) d hd w)
end Pt
end Go.Proofs.YtgdaahffmcfhpaaGreatDoor
