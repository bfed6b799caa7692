/- Short names for theorems that are often used; three small lemmas. -/
import Derived.Test.YtgdaahffmcfhpaaGreatDoorProg
import Derived.WalkKit
import Derived.WalkSpells
import Derived.WalkLawsBesides
import Derived.Lib.Hide
import Derived.Deep.Slices
import Derived.Laws.OwnMore
import Derived.Deep.AppendLies
import Derived.BigQuiet
namespace Go.Proofs.YtgdaahffmcfhpaaGreatDoor
open Go.RowKit
def dG (p:Prop):Prop:=p
theorem dG.o {p:Prop} (h:dG p):p:=h
theorem dG.out {p:Prop} (h:dG p):p:=h
theorem dH {p:Prop} (h:p):dG p:=h
theorem dB {α:Sort _} (a:α):∃b,b=a:=⟨a,rfl⟩
theorem dD (w:World) (o:Obj):Below w.heap.size w (w.alloc o):=(Below.refl _ w).alloc (Nat.le_refl _) o
theorem dF {w0 w w':World} (h:dG (Below w0.heap.size w0 w)) (k:Below w.heap.size w w'):dG (Below w0.heap.size w0 w'):=h.o.trans (k.mono h.o.size)
abbrev dJ (w:World) (v:Value):Ending->World->Prop:=fun e w'=>e=.returned v/\Below w.heap.size w w'
theorem aB:type_of% @Nat.le_refl:=@Nat.le_refl
theorem aC:type_of% @Go.RowKit.Below.refl:=@Go.RowKit.Below.refl
theorem aD:type_of% @List.set_cons_zero:=@List.set_cons_zero
theorem aF:type_of% @List.set_cons_succ:=@List.set_cons_succ
theorem aG:type_of% @Nat.lt_or_ge:=@Nat.lt_or_ge
theorem aH:type_of% @List.setIfInBounds_toArray:=@List.setIfInBounds_toArray
theorem aI:type_of% @Go.World.cell?_of_block:=@Go.World.cell?_of_block
theorem aJ:type_of% @List.getElem_cons_zero:=@List.getElem_cons_zero
theorem aK:type_of% @Nat.le_trans:=@Nat.le_trans
theorem aL:type_of% @List.getElem_cons_succ:=@List.getElem_cons_succ
theorem aM:type_of% @List.getElem_toArray:=@List.getElem_toArray
theorem aN:type_of% @Nat.lt_of_lt_of_le:=@Nat.lt_of_lt_of_le
theorem aO:type_of% @List.length_append:=@List.length_append
theorem aP:type_of% @List.getElem?_toArray:=@List.getElem?_toArray
theorem aQ:type_of% @List.length_cons:=@List.length_cons
theorem aR:type_of% @List.mem_cons:=@List.mem_cons
theorem aS:type_of% @List.getElem?_cons_zero:=@List.getElem?_cons_zero
theorem aT:type_of% @Nat.zero_le:=@Nat.zero_le
theorem aU:type_of% @List.mem_singleton:=@List.mem_singleton
theorem aV:type_of% @List.mem_map:=@List.mem_map
theorem aW:type_of% @List.getElem?_cons_succ:=@List.getElem?_cons_succ
theorem aX:type_of% @List.length_take:=@List.length_take
theorem aY:type_of% @Nat.zero_add:=@Nat.zero_add
theorem aZ:type_of% @Array.size_push:=@Array.size_push
theorem aa:type_of% @Option.some.inj:=@Option.some.inj
theorem af:type_of% @List.nil_append:=@List.nil_append
theorem ag:type_of% @List.getElem_mem:=@List.getElem_mem
theorem ah:type_of% @List.length_nil:=@List.length_nil
theorem ai:type_of% @List.map_cons:=@List.map_cons
theorem aj:type_of% @List.mem_append:=@List.mem_append
theorem ak:type_of% @Array.getElem?_eq_none:=@Array.getElem?_eq_none
theorem aq:type_of% @List.cons_append:=@List.cons_append
theorem au:type_of% @List.flatMap_cons:=@List.flatMap_cons
theorem ax:type_of% @List.length_drop:=@List.length_drop
theorem ay:type_of% @Nat.le_of_lt:=@Nat.le_of_lt
theorem az:type_of% @List.take_of_length_le:=@List.take_of_length_le
theorem bA:type_of% @Nat.mul_le_mul_right:=@Nat.mul_le_mul_right
theorem bB:type_of% @List.findIdx?_eq_some_iff_getElem:=@List.findIdx?_eq_some_iff_getElem
theorem bC:type_of% @Nat.le_succ:=@Nat.le_succ
theorem bD:type_of% @List.append_nil:=@List.append_nil
theorem bE:type_of% @Go.RowKit.Below.heap_alloc:=@Go.RowKit.Below.heap_alloc
theorem bF:type_of% @List.take_succ_eq_append_getElem:=@List.take_succ_eq_append_getElem
theorem bG:type_of% @List.size_toArray:=@List.size_toArray
theorem bH:type_of% @List.eq_nil_of_length_eq_zero:=@List.eq_nil_of_length_eq_zero
theorem bI:type_of% @List.getElem?_eq_none:=@List.getElem?_eq_none
theorem bJ:type_of% @List.not_mem_nil:=@List.not_mem_nil
theorem bK:type_of% @List.append_assoc:=@List.append_assoc
theorem bL:type_of% @Bool.and_eq_true:=@Bool.and_eq_true
theorem bM:type_of% @List.length_map:=@List.length_map
theorem bP:type_of% @List.findIdx?_eq_none_iff:=@List.findIdx?_eq_none_iff
theorem bQ:type_of% @Nat.add_zero:=@Nat.add_zero
theorem bR:type_of% @Bool.false_eq_true:=@Bool.false_eq_true
theorem bU:type_of% @Option.map_some:=@Option.map_some
theorem bV:type_of% @List.map_append:=@List.map_append
theorem bW:type_of% @List.getElem?_take_of_lt:=@List.getElem?_take_of_lt
theorem bY:type_of% @List.mem_iff_getElem:=@List.mem_iff_getElem
theorem bZ:type_of% @List.filter_cons:=@List.filter_cons
theorem bf:type_of% @List.getElem?_eq_getElem:=@List.getElem?_eq_getElem
theorem bh:type_of% @Nat.add_assoc:=@Nat.add_assoc
theorem bk:type_of% @List.drop_zero:=@List.drop_zero
theorem bp:type_of% @Array.length_toList:=@Array.length_toList
theorem bt:type_of% @List.getElem?_append_left:=@List.getElem?_append_left
theorem bu:type_of% @List.getElem?_append_right:=@List.getElem?_append_right
theorem bw:type_of% @List.length_singleton:=@List.length_singleton
theorem bx:type_of% @Go.RowKit.Below.heap_setCell:=@Go.RowKit.Below.heap_setCell
theorem bz:type_of% @List.take_length:=@List.take_length
theorem cC:type_of% @Array.getElem?_toList:=@Array.getElem?_toList
theorem cD:type_of% @Array.replicate_succ:=@Array.replicate_succ
theorem cE:type_of% @Array.replicate_zero:=@Array.replicate_zero
theorem cG:type_of% @List.push_toArray:=@List.push_toArray
theorem cH:type_of% @List.append_toArray:=@List.append_toArray
theorem cK:type_of% @Array.getElem?_eq_getElem:=@Array.getElem?_eq_getElem
theorem cL:type_of% @List.mem_of_mem_drop:=@List.mem_of_mem_drop
theorem cN:type_of% @List.pairwise_map:=@List.pairwise_map
theorem cO:type_of% @List.take_append_drop:=@List.take_append_drop
theorem cQ:type_of% @List.length_set:=@List.length_set
theorem cR:type_of% @List.getElem?_map:=@List.getElem?_map
theorem cS:type_of% @List.nodup_append:=@List.nodup_append
theorem cT:type_of% @Nat.min_eq_right:=@Nat.min_eq_right
theorem cU:type_of% @List.take_succ_cons:=@List.take_succ_cons
theorem cV:type_of% @List.getElem?_eq_some_iff:=@List.getElem?_eq_some_iff
theorem cW:type_of% @List.mem_of_mem_take:=@List.mem_of_mem_take
theorem cZ:type_of% @List.mem_append_left:=@List.mem_append_left
theorem cw:type_of% @Array.getElem?_setIfInBounds:=@Array.getElem?_setIfInBounds
theorem dA:type_of% @List.pairwise_iff_getElem:=@List.pairwise_iff_getElem
end Go.Proofs.YtgdaahffmcfhpaaGreatDoor
