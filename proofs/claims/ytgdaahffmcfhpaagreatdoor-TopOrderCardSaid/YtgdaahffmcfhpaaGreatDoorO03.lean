/- Lemmas on the way: PShelf PBld. -/
import Derived.Shelf.Strings.Builder1
import Derived.Shelf.Strings.Builder2
import Derived.Shelf.Strings.Builder2Cap
import Derived.Shelf.Slices.Turned
import Derived.Shelf.Slices.Equal
import Derived.Shelf.Slices.Clone
import Derived.Shelf.Slices.CompactS
import Derived.Shelf.SlicesE.Clone
import Derived.Lib.OthersKept
import Derived.Test.YtgdaahffmcfhpaaGreatDoorO02
set_option maxRecDepth 100000
set_option maxHeartbeats 8000000
namespace Go.Proofs
open YtgdaahffmcfhpaaGreatDoor.aA
open Tryz
open Go.Shelf
def Tryz.lays169_ren:Go.Shelf.Ren:=⟨fun|169=>180|n=>n,fun|70=>258|9=>9|0=>0|72=>261|37=>259|127=>345|3=>3|5=>5|n=>n,fun|n=>n⟩
theorem Tryz.lays169:Go.Proofs.Lays.n169 prog lays169_ren:={
 mixed:=by kernel_rfl
 f169:=func180.trans (congrArg some (by kernel_rfl))
 t0:=underlying0
 a0:=isAgg0
 z0:=sizeOf0
 v0:=zeroValue0
 t3:=underlying3
 a3:=isAgg3
 z3:=sizeOf3
 v3:=zeroValue3
 t9:=underlying9
 a9:=isAgg9
 z9:=sizeOf9
 v9:=zeroValue9
 t37:=underlying259
 a37:=isAgg259
 z37:=sizeOf259
 v37:=zeroValue259
 t70:=underlying258
 a70:=isAgg258
 z70:=sizeOf258
 v70:=zeroValue258
 t72:=underlying261
 a72:=isAgg261
 z72:=sizeOf261
 v72:=zeroValue261
 t127:=underlying345
 a127:=isAgg345
 z127:=sizeOf345
 v127:=zeroValue345 }
theorem Tryz.Builder_Extra_169:Builder.Extra prog lays169_ren:={
 sizeBuilder:=by kernel_rfl
 liesBuilder:=by kernel_rfl
 t5:=underlying5
 a5:=isAgg5
 z5:=sizeOf5
 v5:=zeroValue5
 infoByte:=by kernel_rfl
 cellsByte:=by kernel_rfl
 sizeByte:=by kernel_rfl
 neB5:=by decide }
open Go.RowKit in
theorem Tryz.Builder_String_any (B b:Nat) (l:List UInt8) (w:World) (h:Lib.IsBuilder 261 5 B b (Lib.byteCells l) w) (hBw:B<=w.heap.size):
  Calls prog 180 #[Qp b] w λe w'=>e=.returned (.string ⟨l.toArray⟩)/\Below B w w':=Any.Builder_String_any lays169 Tryz.Builder_Extra_169 B b l w h hBw
def Tryz.lays110_ren:Go.Shelf.Ren:=⟨fun|110=>191|109=>264|n=>n,fun|31=>99|9=>9|4=>4|3=>3|0=>0|n=>n,fun|n=>n⟩
theorem Tryz.lays110:Go.Proofs.Lays.n110 prog lays110_ren:={
 mixed:=by kernel_rfl
 f109:=func264.trans (congrArg some (by kernel_rfl))
 f110:=func191.trans (congrArg some (by kernel_rfl))
 t0:=underlying0
 a0:=isAgg0
 z0:=sizeOf0
 v0:=zeroValue0
 t3:=underlying3
 a3:=isAgg3
 z3:=sizeOf3
 v3:=zeroValue3
 t4:=underlying4
 a4:=isAgg4
 z4:=sizeOf4
 v4:=zeroValue4
 t9:=underlying9
 a9:=isAgg9
 z9:=sizeOf9
 v9:=zeroValue9
 t31:=underlying99
 a31:=isAgg99
 z31:=sizeOf99
 v31:=zeroValue99 }
open Go.Lib in
theorem Tryz.slices_Contains_string (b off n c:Nat) (zs:List ByteArray) (x:ByteArray) (w:World) (hz:n<=zs.length) (hbig:n<=9223372036854775807) (hc:∀j,j < zs.length->w.cell? ⟨b,off+j,none⟩=some (.string (zs.getD j ByteArray.empty))):
  Calls prog 191 #[.slice (some ⟨b,off,none⟩) n c,.string x] w λe w'=>e=.returned (Lib.containsS (zs.take n) x)/\w'=w:=Any.slices_Contains_string lays110 b off n c zs x w hz hbig hc
open Go.Lib in
theorem Tryz.slices_Contains_string_empty (a:Option Addr) (c:Nat) (x:ByteArray) (w:World):
  Calls prog 191 #[Qq a 0 c,.string x] w λe w'=>e=.returned false/\w'=w:=Any.slices_Contains_string_empty lays110 a c x w
def Tryz.lays193_ren:Go.Shelf.Ren:=⟨fun|193=>82|n=>n,fun|31=>99|9=>9|4=>4|3=>3|0=>0|n=>n,fun|n=>n⟩
theorem Tryz.lays193:Go.Proofs.Lays.n193 prog lays193_ren:={
 mixed:=by kernel_rfl
 f193:=func82.trans (congrArg some (by kernel_rfl))
 t0:=underlying0
 a0:=isAgg0
 z0:=sizeOf0
 v0:=zeroValue0
 t3:=underlying3
 a3:=isAgg3
 z3:=sizeOf3
 v3:=zeroValue3
 t4:=underlying4
 a4:=isAgg4
 z4:=sizeOf4
 v4:=zeroValue4
 t9:=underlying9
 a9:=isAgg9
 z9:=sizeOf9
 v9:=zeroValue9
 t31:=underlying99
 a31:=isAgg99
 z31:=sizeOf99
 v31:=zeroValue99 }
open Go.RowKit Go.Lib in
theorem Tryz.slices_Equal_string (b1 o1 n c b2 o2 m d:Nat) (xs ys:List ByteArray) (w:World) (hx:n<=xs.length) (hy:m<=ys.length) (hbig:n<=9223372036854775807) (hbig2:m<=9223372036854775807) (hc1:∀j,j < xs.length->w.cell? ⟨b1,o1+j,none⟩=some (.string (xs.getD j ByteArray.empty))) (hc2:∀j,j < ys.length->w.cell? ⟨b2,o2+j,none⟩=some (.string (ys.getD j ByteArray.empty))):
  Calls prog 82 #[.slice (some ⟨b1,o1,none⟩) n c,.slice (some ⟨b2,o2,none⟩) m d] w λe w'=>e=.returned (decide (xs.take n=ys.take m))/\∃q,w'=w.drewN q:=Any.slices_Equal_string lays193 b1 o1 n c b2 o2 m d xs ys w hx hy hbig hbig2 hc1 hc2
def Tryz.lays194_ren:Go.Shelf.Ren:=⟨fun|194=>263|n=>n,fun|31=>99|9=>9|3=>3|4=>4|0=>0|n=>n,fun|n=>n⟩
theorem Tryz.lays194:Go.Proofs.Lays.n194 prog lays194_ren:={
 mixed:=by kernel_rfl
 f194:=func263.trans (congrArg some (by kernel_rfl))
 t0:=underlying0
 a0:=isAgg0
 z0:=sizeOf0
 v0:=zeroValue0
 t3:=underlying3
 a3:=isAgg3
 z3:=sizeOf3
 v3:=zeroValue3
 t4:=underlying4
 a4:=isAgg4
 z4:=sizeOf4
 v4:=zeroValue4
 t9:=underlying9
 a9:=isAgg9
 z9:=sizeOf9
 v9:=zeroValue9
 t31:=underlying99
 a31:=isAgg99
 z31:=sizeOf99
 v31:=zeroValue99 }
open Go.RowKit Go.Lib Go.Sort in
theorem Tryz.slices_Compact_string_empty (a:Option Addr) (cap:Nat) (w:World):
  Calls prog 263 #[Qq a 0 cap] w λe w'=>e=.returned (Qq a 0 cap)/\w'=w:=Any.slices_Compact_string_empty lays194 a cap w
def Tryz.laysSlE041_f248_ren:Go.Shelf.Ren:=⟨fun|41=>248|n=>n,fun|22=>99|23=>9|4=>4|n=>n,fun|n=>n⟩
theorem Tryz.laysSlE041_f248:Go.Proofs.SlLaysE0.n41 prog laysSlE041_f248_ren:={
 mixed:=by kernel_rfl
 f41:=⟨f248.name,by decide,func248.trans (congrArg some (by kernel_rfl))⟩
 t4:=underlying4
 a4:=isAgg4
 z4:=sizeOf4
 v4:=zeroValue4
 t22:=underlying99
 a22:=isAgg99
 z22:=sizeOf99
 v22:=zeroValue99 }
open Go.RowKit Go.Lib in
theorem Tryz.slices_Clone (i0:TypeInfo) (z:Value) (size bytes:Nat) (hi:prog.info? 9=some i0) (hz0:i0.zero=some z) (hz1:i0.size=size) (hz2:i0.bytes=bytes) (hzs:z.cells.size=size) (hsz:0 < size) (z23:∀w,(Go.sizeOf 9).run prog w=.ok size w) (b off n c:Nat) (news:List Value) (w:World) (hl:news.length=n*size) (hn:n<=maxLen) (hbig:n*bytes<=140737488355328) (hc:∀j u,news[j]? =some u->w.cell? ⟨b,off+j,none⟩=some u) (h1:∀u∈news,u.oneCell'=true):
  Calls prog 248 #[.slice (some ⟨b,off,none⟩) n c] w λe w'=>∃v',e=.returned v'/\w'.ownsRow w.heap.size 9 size v' n news/\v'≠.slice none 0 0/\Below w.heap.size w w':=AnyE.slices_Clone laysSlE041_f248 i0 z size bytes hi hz0 hz1 hz2 hzs hsz z23 b off n c news w hl hn hbig hc h1
open Go.RowKit Go.Lib in
theorem Tryz.slices_Clone_nil (n c:Nat) (w:World):
  Calls prog 248 #[.slice none n c] w λe w'=>e=.returned ()/\w'=w:=AnyE.slices_Clone_nil laysSlE041_f248 n c w
def Tryz.cloneOp_ren:Go.Shelf.Ren:=⟨fun|41=>62|n=>n,fun|22=>22|23=>32|4=>4|n=>n,fun|n=>n⟩
theorem Tryz.cloneOp:Go.Proofs.SlLaysE0.n41 prog cloneOp_ren:={
 mixed:=by kernel_rfl
 f41:=⟨f62.name,by decide,func62.trans (congrArg some (by kernel_rfl))⟩
 t4:=underlying4
 a4:=isAgg4
 z4:=sizeOf4
 v4:=zeroValue4
 t22:=underlying22
 a22:=isAgg22
 z22:=sizeOf22
 v22:=zeroValue22 }
end Go.Proofs
namespace Go.Proofs.YtgdaahffmcfhpaaGreatDoor
open aA
open Tryz
namespace Pt
open Go.RowKit Go.Shelf
attribute [local go_sem] dR dO dS dP
theorem N6:(prog.info? 261).map (·.size)=some 2:=by kernel_rfl
theorem W8:liesAt prog prog.depth 261 (2 / prog.cellsOf 261) 0 261 1=true:=by kernel_rfl
theorem Jr (b:Nat) (w:World) (h0:w.cell? b=Qp b):
  Calls prog 252 #[Qp b] w λe w'=>e=.returned (.tuple #[])/\w'=w:=by
 obtain ⟨j,hj,_⟩:=Option.map_eq_some_iff.1 N6;go_enter func252,ntmps252;go_wp2;rw [Lib.run_neq_ptr_same w _ underlying258 hj];go_wp2;go_end0;exact ⟨rfl,rfl⟩
theorem Fe (b:Nat) (w:World) (h0:w.cell? b=some (.pointer none)) (hsh:w.shape? b=some (261,2)) (hfz:w.frozen? ⟨b,0,none⟩=false):
  Calls prog 252 #[Qp b] w λe w'=>e=.returned (.tuple #[])/\w'=w.setCell b (Qp b):=by
 obtain ⟨j,hj,hjs⟩:=Option.map_eq_some_iff.1 N6;go_enter func252,ntmps252;go_wp2;rw [Lib.run_to_unsafe w ⟨b,0,none⟩ underlying258 underlying398 hj (by rw [hjs];decide) hsh (Nat.zero_lt_succ 1)];simp only [Result.andThen];rw [Oper.upon_value];go_wp2;rw [run_callFunc_extern func315 (by kernel_rfl) (by kernel_rfl) (by kernel_rfl) (e:=Extern.AbiNoEscape.same) (by kernel_rfl)];rw [Lib.run_noEscape];simp only [Result.andThen];rw [Oper.upon_value];go_wp2;rw [Lib.run_from_unsafe w ⟨b,0,none⟩ underlying398 underlying258 hj hsh W8];simp only [Result.andThen];rw [Oper.upon_value];go_wp2;go_end0;exact ⟨rfl,rfl⟩
abbrev Bld (w:World) (B b:Nat) (l:List UInt8):Prop:=Lib.IsBuilder 261 5 B b (bv l) w
theorem Bld.fresh (w:World):Bld (w.alloc (.cells #[.pointer none,()] 261)) w w []:=Lib.fresh_isBuilder 261 5 w
theorem write_any (B b:Nat) (l s:List UInt8) (w:World) (h:Bld w B b l) (hlen:l.length+s.length<=1000000000) (hBw:B<=w.heap.size):
  Calls prog 177 #[Qp b,s] w λe w'=>e=.returned (.tuple #[s.length,.nilIface])/\Bld w' B b (l++s)/\Below B w w'/\Lib.OthersKept 5 (some b) w w':=by
 obtain ⟨i0,hi,hz0,hz1,hz2⟩:=info_parts D5;have VB:Calls prog 252 #[Qp b] w λe w'=>e=.returned (.tuple #[])/\Lib.BuilderAt 261 5 B b (.pointer (some b)) (bv l) w'/\Below B w w'/\Lib.OthersKept 5 (some b) w w':=by
  rcases h with h|h
  ·refine (Fe b w h.cell0 h.shape h.frozen0).mono ?_
   rintro e w' ⟨rfl,rfl⟩;exact ⟨rfl,h.used _,(aC B w).setCell (p:=b) h.1 _,(Lib.OthersKept.refl _ _ _).setCell b rfl _⟩
  ·refine (Jr b w h.cell0).mono ?_
   rintro e w' ⟨rfl,rfl⟩;exact ⟨rfl,h,aC B _,Lib.OthersKept.refl _ _ _⟩
 have HC:=dL VB;clear VB h;go_enter func177,ntmps177;go_wp2_with fail;refine HC.o.mono ?_;rintro e w1 ⟨rfl,⟨hB,v,hbk,hown,hne⟩,dV,hk1⟩;have c0:w1.cell? b=Qp b:=by rw [Lib.cell_of_heap hbk];rfl
 have c1:w1.cell? (Qc b 1)=some v:=by rw [Lib.cell_of_heap hbk];rfl
 have hbv:(bv l).length=l.length:=by simp [bv]
 rw [hbv] at hown;go_wp2_with (at_builtin;refine Lib.wpList_append_own_string _ rfl _ _ 259 9 rfl B 5 i0 underlying259 underlying9 hi hz0 hz1 hz2 _ _ _ rfl hown (bs s) rfl ?c3 ?c4 ?c5 ?_)
 case c3=>unfold maxLen;rw [dR];omega
 case c4=>rw [dR];omega
 case c5=>have:=dV.size;omega
 intro v' w2 hown' hgrow _;have hlt:b < w1.heap.size:=by
  rcases aD b w1 with h'|h'
  ·exact h'
  ·simp [ax h'] at hbk
 have dY:w2.heap[b]? =some (.cells #[Qp b,v] 261 (0,0)):=by
  rw [hgrow.block b hlt (λe=>hne e.symm)];exact hbk
 have d0:w2.cell? b=Qp b:=by rw [Lib.cell_of_heap dY];rfl
 have d1:w2.cell? (Qc b 1)=some v:=by rw [Lib.cell_of_heap dY];rfl
 have f1:w2.frozen? ⟨b,1,none⟩=false:=Lib.frozen_of_heap dY 1;obtain ⟨ao,n',cap,rfl⟩:∃ao n' cap,v'=.slice ao n' cap:=by
  rcases hown'.2 with ⟨hv,_⟩| ⟨g,cap,cur,hv,_⟩
  ·exact ⟨_,_,_,hv⟩
  ·exact ⟨_,_,_,hv⟩
 have HO:=dL hown';have HG:=dL hgrow;have HN:=dL hown;clear hown' hgrow hown;go_wp2_with fail;go_ret2;refine ⟨rfl,.inr ?_,?_,?_⟩
 ·exact Lib.BuilderAt.put (T:=261) (e:=5) hB dY (bs':=bv (l++s)) (by have:=HO.o;rw [pN];simpa [bv,Lib.strCells,bs] using this) (by decide)
 ·exact (dV.grown HG.o (by have:=dV.size;omega) (λk hk=>(HN.o.lt k hk).1)).setCell (p:=Qc b 1) hB _
 ·refine (hk1.trans (Lib.OthersKept.grown (Lib.OthersKept.refl _ _ _) HG.o (λg hg=>?_))).setCell (Qc b 1) rfl _
  rcases HN.o.2 with ⟨rfl,_⟩| ⟨g',cap,cur,rfl,_,hgb,_⟩
  ·simp [Value.ownBlock] at hg
  ·obtain rfl:g'=g:=by simpa [Value.ownBlock] using hg
   exact ⟨_,_,hgb⟩
theorem string_any (B b:Nat) (l:List UInt8) (w:World) (h:Bld w B b l) (hBw:B<=w.heap.size):
  Calls prog 180 #[Qp b] w λe w'=>e=.returned l/\Below B w w':=Tryz.Builder_String_any B b l w h hBw
end Pt
end Go.Proofs.YtgdaahffmcfhpaaGreatDoor
