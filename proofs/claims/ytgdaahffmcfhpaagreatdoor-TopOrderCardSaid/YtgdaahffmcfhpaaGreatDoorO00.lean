/- Short names for theorems that are often used; three small lemmas. -/
import Derived.Test.YtgdaahffmcfhpaaGreatDoorProg
import Derived.WalkKit
import Derived.WalkSpells
import Derived.WalkLawsBesides
import Derived.Lib.Hide
import Derived.Deep.Slices
import Derived.Laws.OwnMore
import Derived.Deep.AppendLies
import Derived.BigQuiet
namespace Go.Proofs.YtgdaahffmcfhpaaGreatDoor
open Go.RowKit
def dK (p:Prop):Prop:=p
theorem dK.o {p:Prop} (h:dK p):p:=h
theorem dK.out {p:Prop} (h:dK p):p:=h
theorem dL {p:Prop} (h:p):dK p:=h
theorem dG {α:Sort _} (a:α):∃b,b=a:=⟨a,rfl⟩
theorem dH (w:World) (o:Obj):Below w.heap.size w (w.alloc o):=(Below.refl _ w).alloc (Nat.le_refl _) o
theorem dJ {w0 w w':World} (h:dK (Below w0.heap.size w0 w)) (k:Below w.heap.size w w'):dK (Below w0.heap.size w0 w'):=h.o.trans (k.mono h.o.size)
abbrev dM (w:World) (v:Value):Ending->World->Prop:=λe w'=>e=.returned v/\Below w.heap.size w w'
theorem aB:type_of% @Nat.le_refl:=@Nat.le_refl
theorem aC:type_of% @Go.RowKit.Below.refl:=@Go.RowKit.Below.refl
theorem aD:type_of% @Nat.lt_or_ge:=@Nat.lt_or_ge
theorem aF:type_of% @List.set_cons_zero:=@List.set_cons_zero
theorem aG:type_of% @List.set_cons_succ:=@List.set_cons_succ
theorem aH:type_of% @List.setIfInBounds_toArray:=@List.setIfInBounds_toArray
theorem aI:type_of% @Nat.le_trans:=@Nat.le_trans
theorem aJ:type_of% @List.getElem_cons_zero:=@List.getElem_cons_zero
theorem aK:type_of% @List.getElem_cons_succ:=@List.getElem_cons_succ
theorem aL:type_of% @List.getElem_toArray:=@List.getElem_toArray
theorem aM:type_of% @Go.World.cell?_of_block:=@Go.World.cell?_of_block
theorem aN:type_of% @Nat.lt_of_lt_of_le:=@Nat.lt_of_lt_of_le
theorem aO:type_of% @List.getElem?_toArray:=@List.getElem?_toArray
theorem aP:type_of% @List.length_append:=@List.length_append
theorem aQ:type_of% @List.mem_cons:=@List.mem_cons
theorem aR:type_of% @List.length_take:=@List.length_take
theorem aS:type_of% @Nat.zero_le:=@Nat.zero_le
theorem aT:type_of% @List.getElem?_cons_zero:=@List.getElem?_cons_zero
theorem aU:type_of% @List.mem_map:=@List.mem_map
theorem aV:type_of% @Nat.zero_add:=@Nat.zero_add
theorem aW:type_of% @List.mem_singleton:=@List.mem_singleton
theorem aX:type_of% @Option.some.inj:=@Option.some.inj
theorem aY:type_of% @List.length_cons:=@List.length_cons
theorem aZ:type_of% @List.getElem?_cons_succ:=@List.getElem?_cons_succ
theorem aa:type_of% @List.getElem_mem:=@List.getElem_mem
theorem af:type_of% @List.take_of_length_le:=@List.take_of_length_le
theorem ag:type_of% @Nat.le_of_lt:=@Nat.le_of_lt
theorem ah:type_of% @List.length_drop:=@List.length_drop
theorem ai:type_of% @Array.size_push:=@Array.size_push
theorem aj:type_of% @List.flatMap_cons:=@List.flatMap_cons
theorem ak:type_of% @List.nil_append:=@List.nil_append
theorem aq:type_of% @List.mem_append:=@List.mem_append
theorem au:type_of% @List.findIdx?_eq_some_iff_getElem:=@List.findIdx?_eq_some_iff_getElem
theorem ax:type_of% @Array.getElem?_eq_none:=@Array.getElem?_eq_none
theorem ay:type_of% @List.take_succ_eq_append_getElem:=@List.take_succ_eq_append_getElem
theorem az:type_of% @List.eq_nil_of_length_eq_zero:=@List.eq_nil_of_length_eq_zero
theorem bA:type_of% @Nat.mul_le_mul_right:=@Nat.mul_le_mul_right
theorem bB:type_of% @List.map_cons:=@List.map_cons
theorem bC:type_of% @List.cons_append:=@List.cons_append
theorem bD:type_of% @List.getElem?_eq_none:=@List.getElem?_eq_none
theorem bE:type_of% @List.length_nil:=@List.length_nil
theorem bF:type_of% @Nat.le_succ:=@Nat.le_succ
theorem bG:type_of% @List.append_nil:=@List.append_nil
theorem bH:type_of% @List.not_mem_nil:=@List.not_mem_nil
theorem bI:type_of% @Option.map_some:=@Option.map_some
theorem bJ:type_of% @List.length_map:=@List.length_map
theorem bK:type_of% @List.findIdx?_eq_none_iff:=@List.findIdx?_eq_none_iff
theorem bM:type_of% @Go.RowKit.Below.heap_alloc:=@Go.RowKit.Below.heap_alloc
theorem bQ:type_of% @List.map_append:=@List.map_append
theorem bR:type_of% @List.mem_iff_getElem:=@List.mem_iff_getElem
theorem bU:type_of% @Go.RowKit.Below.heap_setCell:=@Go.RowKit.Below.heap_setCell
theorem bV:type_of% @List.take_append_drop:=@List.take_append_drop
theorem bW:type_of% @List.size_toArray:=@List.size_toArray
theorem bY:type_of% @List.getElem?_append_left:=@List.getElem?_append_left
theorem bZ:type_of% @Nat.add_zero:=@Nat.add_zero
theorem bf:type_of% @List.getElem?_take_of_lt:=@List.getElem?_take_of_lt
theorem bh:type_of% @List.getElem?_eq_getElem:=@List.getElem?_eq_getElem
theorem bk:type_of% @Nat.add_assoc:=@Nat.add_assoc
theorem bp:type_of% @Bool.false_eq_true:=@Bool.false_eq_true
theorem bt:type_of% @List.getElem?_append_right:=@List.getElem?_append_right
theorem bu:type_of% @List.filter_cons:=@List.filter_cons
theorem bw:type_of% @Option.getD_some:=@Option.getD_some
theorem bx:type_of% @List.append_assoc:=@List.append_assoc
theorem bz:type_of% @List.drop_zero:=@List.drop_zero
theorem cC:type_of% @Array.length_toList:=@Array.length_toList
theorem cD:type_of% @List.take_length:=@List.take_length
theorem cE:type_of% @List.nodup_append:=@List.nodup_append
theorem cG:type_of% @Array.getElem?_eq_getElem:=@Array.getElem?_eq_getElem
theorem cH:type_of% @List.mem_of_mem_drop:=@List.mem_of_mem_drop
theorem cK:type_of% @Array.getElem?_modify:=@Array.getElem?_modify
theorem cL:type_of% @List.getElem?_map:=@List.getElem?_map
theorem cN:type_of% @Array.getElem?_toList:=@Array.getElem?_toList
theorem cO:type_of% @Bool.and_eq_true:=@Bool.and_eq_true
theorem cQ:type_of% @Array.ext_getElem?:=@Array.ext_getElem?
theorem cR:type_of% @List.getElem?_eq_some_iff:=@List.getElem?_eq_some_iff
theorem cS:type_of% @List.mem_of_mem_take:=@List.mem_of_mem_take
theorem cT:type_of% @List.length_set:=@List.length_set
theorem cU:type_of% @List.pairwise_cons:=@List.pairwise_cons
theorem cV:type_of% @List.pairwise_map:=@List.pairwise_map
theorem cW:type_of% @List.mem_append_left:=@List.mem_append_left
theorem cZ:type_of% @Nat.min_eq_right:=@Nat.min_eq_right
theorem cw:type_of% @List.drop_eq_nil_of_le:=@List.drop_eq_nil_of_le
theorem dA:type_of% @List.take_succ_cons:=@List.take_succ_cons
theorem dB:type_of% @Go.World.cell?_alloc_past:=@Go.World.cell?_alloc_past
theorem dD:type_of% @Array.getElem?_setIfInBounds:=@Array.getElem?_setIfInBounds
theorem dF:type_of% @List.pairwise_iff_getElem:=@List.pairwise_iff_getElem
inductive aA where|qn|yh|yj|Qp(b:Nat)|Qs(g n c:Nat)|Qc(b k:Nat)|Qq(a:Option Addr)(n c:Nat)
open aA
instance:Coe Int Value:=⟨.int .i64⟩
instance:Coe Nat Value:=⟨λn=>.int .i64 n⟩
instance:Coe Bool Value:=⟨.bool⟩
instance:Coe Unit Value:=⟨λ_=>.slice none 0 0⟩
instance:Coe World Nat:=⟨λw=>w.heap.size⟩
instance:Coe Nat Addr:=⟨λg=>⟨g,0,none⟩⟩
instance:CoeDep aA (qn) Value:=⟨.int .i64 0⟩
instance:CoeDep aA (qn) (Option Value):=⟨some (.int .i64 0)⟩
instance:CoeDep aA (yh) Value:=⟨.int .i64 1⟩
instance:CoeDep aA (yh) (Option Value):=⟨some (.int .i64 1)⟩
instance:CoeDep aA (yj) Value:=⟨.string ⟨#[]⟩⟩
instance:CoeDep aA (yj) (Option Value):=⟨some (.string ⟨#[]⟩)⟩
instance {B:Nat}:CoeDep aA (Qp B) Value:=⟨.pointer (some ⟨B,0,none⟩)⟩
instance {B:Nat}:CoeDep aA (Qp B) (Option Value):=⟨some (.pointer (some ⟨B,0,none⟩))⟩
instance {B n c:Nat}:CoeDep aA (Qs B n c) Value:=⟨.slice (some ⟨B,0,none⟩) n c⟩
instance {B n c:Nat}:CoeDep aA (Qs B n c) (Option Value):=⟨some (.slice (some ⟨B,0,none⟩) n c)⟩
instance {a:Option Addr} {n c:Nat}:CoeDep aA (Qq a n c) Value:=⟨.slice a n c⟩
instance {a:Option Addr} {n c:Nat}:CoeDep aA (Qq a n c) (Option Value):=⟨some (.slice a n c)⟩
instance {B n:Nat}:CoeDep aA (Qc B n) Addr:=⟨⟨B,n,none⟩⟩
end Go.Proofs.YtgdaahffmcfhpaaGreatDoor
