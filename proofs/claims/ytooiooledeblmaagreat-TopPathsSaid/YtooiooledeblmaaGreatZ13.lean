/- trans.Text, at "A" from UTF-8 to UTF-EBCDIC. tally.Of, at one letter of ASCII. The sum of bytes: that it is some number, and four bytes. A crate's head and end, by their lengths. -/
import Derived.Test.YtooiooledeblmaaGreatZ10
import Derived.Test.YtooiooledeblmaaGreatZ12
import Derived.Deep.RegionWith
import Derived.Deep.CutBlock
import Derived.Deep.DeepCutAuto
set_option linter.unusedVariables false
set_option linter.unusedSimpArgs false
namespace Go.Proofs.YtooiooledeblmaaGreat
namespace Dcd
open Go.RowKit Win Stp Mach Dec Go.Proofs.YtooiooledeblmaaGreatW.PrintMore Out Lst
theorem lst_own {w:World} {base r c:Nat} {l:List Int} (h:w.ownsRow base 31 1 (.slice (some ⟨r,0,none⟩) l.length c) l.length (u32s l)) {wx:World} (hb:Below w.heap.size w wx):Lst wx .u32 (some ⟨r,0,none⟩) l:=by
 intro k hk;refine ⟨⟨r,0,none⟩,rfl,?_⟩
 have hlt:=(h.lt r rfl).2;have hc:=h.cells (g:=r) rfl k (.int .u32 (l.getD k 0)) (by simp [u32s,List.getElem?_map,List.getElem?_eq_getElem hk,List.getD_eq_getElem?_getD])
 exact (hb.cell (p:=(⟨r,0,none⟩:Addr).add k) (World.block_lt_of_cell? w _ hc)).trans hc
theorem name_1 (w:World):Calls Tryz.prog 30 #[.int .i64 1] w fun e w'=>e= .returned (.string ⟨#[117,116,102,45,56]⟩)∧Below w.heap.size w w':=by
 go_enter Tryz.func30,Tryz.ntmps30;go_wp2_with fail;go_ret;exact ⟨rfl,(Below.refl _ _).alloc (Nat.le_refl _) _⟩
theorem name_6 (w:World):Calls Tryz.prog 30 #[.int .i64 6] w fun e w'=>e= .returned (.string ⟨#[117,116,102,45,101,98,99,100,105,99]⟩)∧Below w.heap.size w w':=by
 go_enter Tryz.func30,Tryz.ntmps30;go_wp2_with fail;go_ret;exact ⟨rfl,(Below.refl _ _).alloc (Nat.le_refl _) _⟩
set_option maxRecDepth 100000 in
set_option maxHeartbeats 8000000 in
theorem text_live (w:World):Calls Tryz.prog 15 #[.int .i64 1,.int .i64 6,.string (strOfNums [65])] w (EncPost w [193]):=by
 have hE:=fun (w0:World) (r c:Nat) (hL:∀wx,Below w0.heap.size w0 wx→Lst wx .u32 (some ⟨r,0,none⟩) [65]) (hc:1≤c)=>encode_all (c:=6) (.inl (by decide)) (l:=[65]) (cap:=c) hL (by decide +kernel) (by decide) hc
 rw [show encS 6 [65]=[193] from by decide +kernel] at hE;have HE:=Lib.hid hE;have HD:=Lib.hid decode_A;clear hE;go_enter Tryz.func15,Tryz.ntmps15;go_wp2_with fail;refine (name_1 _).mono ?_;rintro e w1 ⟨rfl,hb1⟩
 have HB1:=Lib.hid (((Below.refl _ w).alloc (Nat.le_refl _) _).trans (Below.mono hb1 (by simp)))
 have hr1:=(hb1.block w.heap.size (by simp)).trans (heap_alloc_new w _)
 have HR1:=Lib.hid hr1;clear hb1 hr1;go_wp2_with fail;refine (name_6 _).mono ?_;rintro e w2 ⟨rfl,hb2⟩
 have HB2:=Lib.hid (HB1.out.trans (Below.mono hb2 HB1.out.size))
 have HR2:=Lib.hid ((hb2.block w.heap.size (Array.getElem?_eq_some_iff.1 HR1.out).1).trans HR1.out)
 clear hb2 HB1 HR1;go_wp2_with fail;refine (HD.out _).mono ?_;rintro e w3 ⟨r,c,rfl,ho3,hb3⟩
 have hc:1≤c:=by
  rcases ho3.2 with ⟨h1,_⟩|⟨g',cap,cur,h1,_,_,h4,_⟩
  ·cases h1
  ·injection h1 with _ _ h1;simp at h4;omega
 have HB3:=Lib.hid (HB2.out.trans (Below.mono hb3 HB2.out.size))
 have HR3:=Lib.hid ((hb3.block w.heap.size (Array.getElem?_eq_some_iff.1 HR2.out).1).trans HR2.out)
 have HO3:=Lib.hid ho3;have HC:=Lib.hid hc;clear hb3 ho3 hc HB2 HR2;go_wp2_with fail;refine (HE.out _ r c (fun wx hx=>lst_own HO3.out (((Below.refl _ w3).alloc (Nat.le_refl _) _).trans (Below.mono hx (by simp)))) HC.out).mono ?_;rintro e w4 ⟨rfl,hb4⟩
 have hR4:=(hb4.block w.heap.size (by have:=(Array.getElem?_eq_some_iff.1 HR3.out).1;simp;omega)).trans ((Below.heap_alloc w3 _ _ (Array.getElem?_eq_some_iff.1 HR3.out).1).trans HR3.out)
 have hP4:=(hb4.block w3.heap.size (by simp)).trans (heap_alloc_new w3 _)
 have hB4:=(HB3.out.trans ((Below.refl _ w3).alloc (Nat.le_refl _) _|>fun h=>Below.mono h HB3.out.size)).trans (Below.mono hb4 (by have:=HB3.out.size;simp;omega))
 have hne:w.heap.size<w3.heap.size:=(Array.getElem?_eq_some_iff.1 HR3.out).1;obtain ⟨p,hp⟩:∃p,p=w3.heap.size:=⟨_,rfl⟩
 rw [←hp] at hP4 hne;have HB4:=Lib.hid hB4;have HX:=Lib.hid (And.intro hR4 hP4)
 rw [←hp]
 clear hp HB3 HR3 HO3 hR4 hP4 hB4 hb4;go_wp2_with fail;obtain ⟨w5,hw5⟩:∃w5,w5=w4.alloc (.cells #[.int .i64 0,.int .i64 0] 39):=⟨_,rfl⟩
 rw [←hw5]
 have hr5:w5.heap[w.heap.size]? =some (.cells #[.int .i64 0,.int .i64 0] 39 (0,0)):=by rw [hw5,Below.heap_alloc _ _ _ (Array.getElem?_eq_some_iff.1 HX.out.1).1];exact HX.out.1
 have hp5:w5.heap[p]? =some (.cells #[.int .i64 0,.int .i64 0] 39 (0,0)):=by rw [hw5,Below.heap_alloc _ _ _ (Array.getElem?_eq_some_iff.1 HX.out.2).1];exact HX.out.2
 have hb5:Below w.heap.size w w5:=by rw [hw5];exact HB4.out.alloc HB4.out.size _
 have c0:w5.cell? ⟨w.heap.size,0,none⟩=some (.int .i64 0):=by rw [cell_of hr5];rfl
 have c1:w5.cell? ⟨w.heap.size,1,none⟩=some (.int .i64 0):=by rw [cell_of hr5];rfl
 have d0:w5.cell? ⟨p,0,none⟩=some (.int .i64 0):=by rw [cell_of hp5];rfl
 have d1:w5.cell? ⟨p,1,none⟩=some (.int .i64 0):=by rw [cell_of hp5];rfl
 have f0:=frozen_of hr5 0;have f1:=frozen_of hr5 1;have HB5:=Lib.hid hb5;clear HB4 HX hw5 hr5 hp5 hb5;go_region_with fail;go_wp2_with fail;have e0:((w5.setCell ⟨w.heap.size,0,none⟩ (.int .i64 0)).setCell ⟨w.heap.size,1,none⟩ (.int .i64 0)).drew.cell? ⟨w.heap.size,0,none⟩=some (.int .i64 0):=by
  show ((w5.setCell ⟨w.heap.size,0,none⟩ (.int .i64 0)).setCell ⟨w.heap.size,1,none⟩ (.int .i64 0)).cell? ⟨w.heap.size,0,none⟩=_
  rw [World.cell?_setCell_other _ _ _ _ (by simp),World.cell?_setCell_same _ _ _ c0]
 have e1:((w5.setCell ⟨w.heap.size,0,none⟩ (.int .i64 0)).setCell ⟨w.heap.size,1,none⟩ (.int .i64 0)).drew.cell? ⟨w.heap.size,1,none⟩=some (.int .i64 0):=by
  show ((w5.setCell ⟨w.heap.size,0,none⟩ (.int .i64 0)).setCell ⟨w.heap.size,1,none⟩ (.int .i64 0)).cell? ⟨w.heap.size,1,none⟩=_
  rw [World.cell?_setCell_same (u:=.int .i64 0) _ _ _ (by rw [World.cell?_setCell_other _ _ _ _ (by simp)];exact c1)]
 refine bodyPost_ret (v:=.tuple #[.string (strOfNums [193]),.agg #[.int .i64 0,.int .i64 0]]) (by simp [results,Tryz.results15,go_sem,e0,e1]) rfl ⟨rfl,below_drewN ((HB5.out.setCell (p:=⟨w.heap.size,0,none⟩) (Nat.le_refl _) _).setCell (p:=⟨w.heap.size,1,none⟩) (Nat.le_refl _) _) 1⟩
end Dcd
namespace Dcd
open Go.RowKit Win Stp Mach Dec Go.Proofs.YtooiooledeblmaaGreatW.PrintMore Out Lst
theorem class_live (w:World):Calls Tryz.prog 38 #[.int .u32 65] w fun e w'=>e= .returned (.int .i64 2)∧w=w':=by
 have HI:=Lib.hid (sis_calls 65 w)
 go_enter Tryz.func38,Tryz.ntmps38;go_wp2_with fail;refine HI.out.mono ?_;rintro e w1 ⟨rfl,rfl⟩
 have hb:isB 65=true:=by decide
 rw [hb]
 go_wp2_with fail;go_ret;exact ⟨rfl,rfl⟩
theorem units_live (a:Nat) (w:World) (h:w.cell? ⟨a,0,none⟩=some (.int .u32 65)):Calls Tryz.prog 39 #[.slice (some ⟨a,0,none⟩) 1 1] w fun e w'=>e= .returned (.int .i64 1)∧w=w':=by
 have HI:=Lib.hid (sis_calls 65 w)
 have hb:isB 65=true:=by decide
 rw [hb] at HI;go_enter Tryz.func39,Tryz.ntmps39;go_wp2_with fail;go_loopw [3,5,8] (fun v3 v5 v8 wr=>w=wr∧((v8= .int .i64 0∧v3= .int .i64 0)∨(v8= .int .i64 1∧v3= .int .i64 1))) (fun _ _ v8 _=>1-(intOf v8).toNat)
 case atStart=>exact ⟨rfl,.inl ⟨rfl,rfl⟩⟩
 case round=>
  obtain ⟨rfl,⟨rfl,rfl⟩|⟨rfl,rfl⟩⟩:=hrel
  ·go_wp2_with fail
   refine HI.out.mono ?_;rintro e w1 ⟨rfl,rfl⟩
   go_wp2_with fail;go_roundw
   case rel=>exact ⟨trivial,.inr ⟨rfl,rfl⟩⟩
   case measure=>decide
  ·go_wp2_with fail
   go_ret;exact ⟨rfl,rfl⟩
def zeroV:Array Value:=#[.int .i64 0,.int .i64 0,.int .i64 0,.int .i64 0,.int .i64 0,.int .i64 0,.int .i64 0,.int .i64 0,.int .i64 0,.int .u32 0,.int .u32 0]
theorem cell_new {w:World} {x:Int}:(w.alloc (.cells #[.int .u32 x] 31)).cell? ⟨w.heap.size,0,none⟩=some (.int .u32 x):=by rw [cell_of (heap_alloc_new _ _)];rfl
theorem cell_newd {w:World} {x:Int}:(w.alloc (.cells #[.int .u32 x] 31)).drew.cell? ⟨w.heap.size,0,none⟩=some (.int .u32 x):=cell_new
def midV:Array Value:=#[.int .i64 0,.int .i64 0,.int .i64 0,.int .i64 0,.int .i64 1,.int .i64 0,.int .i64 0,.int .i64 0,.int .i64 0,.int .u32 65,.int .u32 0]
theorem lst_new {w wx:World} {x:Int} (hx:Below (w.alloc (.cells #[.int .u32 x] 31)).heap.size (w.alloc (.cells #[.int .u32 x] 31)) wx):Lst wx .u32 (some ⟨w.heap.size,0,none⟩) [x]:=by
 intro k hk;obtain rfl:k=0:=by simp at hk;exact hk
 refine ⟨_,rfl,?_⟩
 have h0:(w.alloc (.cells #[.int .u32 x] 31)).cell? ⟨w.heap.size,0,none⟩=some (.int .u32 x):=by rw [cell_of (heap_alloc_new _ _)];rfl
 exact (hx.cell (p:=⟨w.heap.size,0,none⟩) (World.block_lt_of_cell? _ _ h0)).trans h0
def tallyV:Array Value:=#[.int .i64 1,.int .i64 1,.int .i64 1,.int .i64 0,.int .i64 1,.int .i64 0,.int .i64 0,.int .i64 0,.int .i64 0,.int .u32 65,.int .u32 65]
set_option maxRecDepth 100000 in
set_option maxHeartbeats 8000000 in
theorem tally_live (a:Nat) (w:World) (h:w.cell? ⟨a,0,none⟩=some (.int .u32 65)):Calls Tryz.prog 20 #[.slice (some ⟨a,0,none⟩) 1 1] w fun e w'=>e= .returned (.agg tallyV)∧Below w.heap.size w w':=by
 have hE:=fun (w0:World) (r c:Nat) (hL:∀wx,Below w0.heap.size w0 wx→Lst wx .u32 (some ⟨r,0,none⟩) [65]) (hc:1≤c)=>encode_all (c:=1) (.inl (by decide)) (l:=[65]) (cap:=c) hL (by decide +kernel) (by decide) hc
 rw [show encS 1 [65]=[65] from by decide +kernel] at hE;have HE:=Lib.hid hE;have hlt:a<w.heap.size:=World.block_lt_of_cell? w _ h;clear hE;go_enter Tryz.func20,Tryz.ntmps20;go_wp2_with fail;obtain ⟨r,hr⟩:∃r,r=w.heap.size:=⟨_,rfl⟩
 obtain ⟨w0,hw0⟩:∃w0,w0=w.alloc (.cells zeroV 50):=⟨_,rfl⟩
 obtain ⟨w1,hw1⟩:∃w1,w1=w0.alloc (.cells zeroV 50):=⟨_,rfl⟩
 have hw1':(w.alloc (.cells zeroV 50)).alloc (.cells zeroV 50)=w1:=by rw [hw1,hw0]
 unfold zeroV at hw1';have hz0:w0.heap.size=r+1:=by rw [hw0,hr];simp
 have hr1:w1.heap[r]? =some (.cells zeroV 50 (0,0)):=by rw [hw1,Below.heap_alloc _ _ _ (by omega),hw0,hr];exact heap_alloc_new _ _
 have ht1:w1.heap[r+1]? =some (.cells zeroV 50 (0,0)):=by rw [hw1,←hz0];exact heap_alloc_new _ _
 have hb1:Below w.heap.size w w1:=by rw [hw1,hw0];exact ((Below.refl _ _).alloc (Nat.le_refl _) _).alloc (by simp) _
 have ha1:w1.cell? ⟨a,0,none⟩=some (.int .u32 65):=(hb1.cell (p:=⟨a,0,none⟩) hlt).trans h;rw [hw1',←hr]
 have HR1:=Lib.hid hr1;have HT1:=Lib.hid ht1;have HB1:=Lib.hid hb1;have HRw:=Lib.hid hr;clear hw1' hw1 hw0 hz0 hr1 ht1 hb1 hr h;go_loopw [5,6,7,10] (fun v5 v6 v7 v10 wr=>(v10= .int .i64 0∧w1=wr)∨(v10= .int .i64 1∧wr.heap[r]? =some (.cells zeroV 50 (0,0))∧wr.heap[r+1]? =some (.cells tallyV 50 (0,0))∧Below w.heap.size w wr)) (fun _ _ _ v10 _=>1-(intOf v10).toNat)
 case atStart=>exact .inl ⟨rfl,rfl⟩
 case round=>
  rcases hrel with ⟨rfl,rfl⟩|⟨rfl,hr2,ht2,hb2⟩
  ·have c0:w1.cell? ⟨r+1,0,none⟩=some (.int .i64 0):=by rw [cell_of HT1.out];rfl
   have c4:w1.cell? ⟨r+1,4,none⟩=some (.int .i64 0):=by rw [cell_of HT1.out];rfl
   have c9:w1.cell? ⟨r+1,9,none⟩=some (.int .u32 0):=by rw [cell_of HT1.out];rfl
   have fz:=frozen_of HT1.out;go_wp2_with fail;refine (class_live _).mono ?_;rintro e w2 ⟨rfl,rfl⟩
   go_wp2_with fail;have hT:((w1.setCell ⟨r+1,4,none⟩ (.int .i64 1)).setCell ⟨r+1,9,none⟩ (.int .u32 65)).heap[r+1]? =some (.cells midV 50 (0,0)):=by
    rw [heap_setCell_same _ _ _ _ _ _ (heap_setCell_same w1 _ _ _ _ _ HT1.out)]
    rfl
   have hR:((w1.setCell ⟨r+1,4,none⟩ (.int .i64 1)).setCell ⟨r+1,9,none⟩ (.int .u32 65)).heap[r]? =some (.cells zeroV 50 (0,0)):=by
    rw [Below.heap_setCell _ _ _ _ (by show r≠r+1;omega),Below.heap_setCell _ _ _ _ (by show r≠r+1;omega)]
    exact HR1.out
   have hB:=(HB1.out.setCell (p:=⟨r+1,4,none⟩) (by have:=HRw.out;show w.heap.size≤r+1;omega) (.int .i64 1)).setCell (p:=⟨r+1,9,none⟩) (by have:=HRw.out;show w.heap.size≤r+1;omega) (.int .u32 65)
   have hsz:((w1.setCell ⟨r+1,4,none⟩ (.int .i64 1)).setCell ⟨r+1,9,none⟩ (.int .u32 65)).heap.size=w1.heap.size:=by simp [World.setCell]
   rw [←hsz]
   generalize (w1.setCell ⟨r+1,4,none⟩ (.int .i64 1)).setCell ⟨r+1,9,none⟩ (.int .u32 65)=w2 at hT hR hB ⊢;clear hsz c0 c4 c9 fz ha1;refine (HE.out (w2.alloc (.cells #[.int .u32 65] 31)) w2.heap.size 1 (fun wx hx=>lst_new hx) (by decide)).mono ?_;rintro e w3 ⟨rfl,hb3⟩
   have hTl:r+1<w2.heap.size:=(Array.getElem?_eq_some_iff.1 hT).1;have hRl:r<w2.heap.size:=by omega
   have hT3:=(hb3.block (r+1) (by simp;omega)).trans ((Below.heap_alloc w2 _ _ hTl).trans hT)
   have hR3:=(hb3.block r (by simp;omega)).trans ((Below.heap_alloc w2 _ _ hRl).trans hR)
   have hB3:=(hB.alloc hB.size (.cells #[.int .u32 65] 31)).trans (Below.mono hb3 (by have:=hB.size;simp;omega))
   have c0:w3.cell? ⟨r+1,0,none⟩=some (.int .i64 0):=by rw [cell_of hT3];rfl
   have c1:w3.cell? ⟨r+1,1,none⟩=some (.int .i64 0):=by rw [cell_of hT3];rfl
   have c2:w3.cell? ⟨r+1,2,none⟩=some (.int .i64 0):=by rw [cell_of hT3];rfl
   have c9:w3.cell? ⟨r+1,9,none⟩=some (.int .u32 65):=by rw [cell_of hT3];rfl
   have c10:w3.cell? ⟨r+1,10,none⟩=some (.int .u32 0):=by rw [cell_of hT3];rfl
   have fz:=frozen_of hT3;have hTl3:r+1<w3.heap.size:=(Array.getElem?_eq_some_iff.1 hT3).1;have HT3:=Lib.hid hT3;have HR3:=Lib.hid hR3;have HB3:=Lib.hid hB3;clear hT hR hB hb3 hTl hRl hT3 hR3 hB3;go_wp2_with fail;obtain ⟨w4,hw4⟩:∃w4,w4=(w3.setCell ⟨r+1,0,none⟩ (.int .i64 1)).alloc (.cells #[.int .i64 0,.int .i64 0] 39):=⟨_,rfl⟩
   rw [←hw4]
   have hs3:(w3.setCell ⟨r+1,0,none⟩ (.int .i64 1)).heap.size=w3.heap.size:=by simp [World.setCell]
   have hT4:w4.heap[r+1]? =some (.cells #[.int .i64 1,.int .i64 0,.int .i64 0,.int .i64 0,.int .i64 1,.int .i64 0,.int .i64 0,.int .i64 0,.int .i64 0,.int .u32 65,.int .u32 0] 50 (0,0)):=by
    rw [hw4,Below.heap_alloc _ _ _ (by omega),heap_setCell_same w3 _ _ _ _ _ HT3.out]
    rfl
   have hR4:w4.heap[r]? =some (.cells zeroV 50 (0,0)):=by
    rw [hw4,Below.heap_alloc _ _ _ (by omega),Below.heap_setCell _ _ _ _ (by show r≠r+1;omega)]
    exact HR3.out
   have hB4:Below w.heap.size w w4:=by
    rw [hw4]
    have h1:=HB3.out.setCell (p:=⟨r+1,0,none⟩) (by have:=HRw.out;show w.heap.size≤r+1;omega) (.int .i64 1)
    exact h1.alloc h1.size _
   have d1:w4.cell? ⟨r+1,1,none⟩=some (.int .i64 0):=by rw [cell_of hT4];rfl
   have d2:w4.cell? ⟨r+1,2,none⟩=some (.int .i64 0):=by rw [cell_of hT4];rfl
   have d9:w4.cell? ⟨r+1,9,none⟩=some (.int .u32 65):=by rw [cell_of hT4];rfl
   have d10:w4.cell? ⟨r+1,10,none⟩=some (.int .u32 0):=by rw [cell_of hT4];rfl
   have fz4:=frozen_of hT4;have hTl4:r+1<w4.heap.size:=(Array.getElem?_eq_some_iff.1 hT4).1;have HT4:=Lib.hid hT4;have HR4:=Lib.hid hR4;have HB4:=Lib.hid hB4;clear hw4 hs3 hT4 hR4 hB4 c0 c1 c2 c9 c10 fz HT3 HR3 HB3 hTl3;go_region_with (go_at_call 39;refine (units_live _ _ (by first|exact cell_new|exact cell_newd)).mono ?_;rintro e w5 ⟨rfl,rfl⟩)
   all_goals
    try rw [show IntKind.i64.wrap 1=1 from by decide]
    obtain ⟨w6,hw6⟩:∃w6,w6=((w4.setCell ⟨r+1,1,none⟩ (.int .i64 1)).alloc (.cells #[.int .u32 65] 31)).drew:=⟨_,rfl⟩
    rw [←hw6]
    have hs4:(w4.setCell ⟨r+1,1,none⟩ (.int .i64 1)).heap.size=w4.heap.size:=by simp [World.setCell]
    have hT6:w6.heap[r+1]? =some (.cells #[.int .i64 1,.int .i64 1,.int .i64 0,.int .i64 0,.int .i64 1,.int .i64 0,.int .i64 0,.int .i64 0,.int .i64 0,.int .u32 65,.int .u32 0] 50 (0,0)):=by
     rw [hw6]
     show ((w4.setCell ⟨r+1,1,none⟩ (.int .i64 1)).alloc (.cells #[.int .u32 65] 31)).heap[r+1]? =_
     rw [Below.heap_alloc _ _ _ (by omega),heap_setCell_same w4 _ _ _ _ _ HT4.out]
     rfl
    have hR6:w6.heap[r]? =some (.cells zeroV 50 (0,0)):=by
     rw [hw6]
     show ((w4.setCell ⟨r+1,1,none⟩ (.int .i64 1)).alloc (.cells #[.int .u32 65] 31)).heap[r]? =_
     rw [Below.heap_alloc _ _ _ (by omega),Below.heap_setCell _ _ _ _ (by show r≠r+1;omega)]
     exact HR4.out
    have hB6:Below w.heap.size w w6:=by
     rw [hw6]
     have h1:=HB4.out.setCell (p:=⟨r+1,1,none⟩) (by have:=HRw.out;show w.heap.size≤r+1;omega) (.int .i64 1)
     exact below_drewN (h1.alloc h1.size _) 1
    have g2:w6.cell? ⟨r+1,2,none⟩=some (.int .i64 0):=by rw [cell_of hT6];rfl
    have g9:w6.cell? ⟨r+1,9,none⟩=some (.int .u32 65):=by rw [cell_of hT6];rfl
    have g10:w6.cell? ⟨r+1,10,none⟩=some (.int .u32 0):=by rw [cell_of hT6];rfl
    have fz6:=frozen_of hT6;have hTl6:r+1<w6.heap.size:=(Array.getElem?_eq_some_iff.1 hT6).1;have hss:(strOfNums [65]).size=1:=by decide +kernel
    have HT6:=Lib.hid hT6;have HR6:=Lib.hid hR6;have HB6:=Lib.hid hB6;clear hw6 hs4 hT6 hR6 hB6 d1 d2 d9 d10 fz4 HT4 HR4 HB4 hTl4;go_wp2_with fail;go_roundw
    case rel=>
     refine .inr ⟨rfl,?_,?_,?_⟩
     ·rw [Below.heap_setCell _ _ _ _ (by show r≠r+1;omega),Below.heap_setCell _ _ _ _ (by show r≠r+1;omega),Below.heap_setCell _ _ _ _ (by show r≠r+1;omega)]
      exact HR6.out
     ·rw [heap_setCell_same _ _ _ _ _ _ (heap_setCell_same _ _ _ _ _ _ (heap_setCell_same _ _ _ _ _ _ HT6.out))]
      rfl
     ·exact ((HB6.out.setCell (p:=⟨r+1,2,none⟩) (by have:=HRw.out;show w.heap.size≤r+1;omega) _).setCell (p:=⟨r+1,9,none⟩) (by have:=HRw.out;show w.heap.size≤r+1;omega) _).setCell (p:=⟨r+1,10,none⟩) (by have:=HRw.out;show w.heap.size≤r+1;omega) _
    case measure=>decide
  ·have t0:wr.cell? ⟨r+1,0,none⟩=some (.int .i64 1):=by rw [cell_of ht2];rfl
   have t1:wr.cell? ⟨r+1,1,none⟩=some (.int .i64 1):=by rw [cell_of ht2];rfl
   have t2:wr.cell? ⟨r+1,2,none⟩=some (.int .i64 1):=by rw [cell_of ht2];rfl
   have t3:wr.cell? ⟨r+1,3,none⟩=some (.int .i64 0):=by rw [cell_of ht2];rfl
   have t4:wr.cell? ⟨r+1,4,none⟩=some (.int .i64 1):=by rw [cell_of ht2];rfl
   have t5:wr.cell? ⟨r+1,5,none⟩=some (.int .i64 0):=by rw [cell_of ht2];rfl
   have t6:wr.cell? ⟨r+1,6,none⟩=some (.int .i64 0):=by rw [cell_of ht2];rfl
   have t7:wr.cell? ⟨r+1,7,none⟩=some (.int .i64 0):=by rw [cell_of ht2];rfl
   have t8:wr.cell? ⟨r+1,8,none⟩=some (.int .i64 0):=by rw [cell_of ht2];rfl
   have t9:wr.cell? ⟨r+1,9,none⟩=some (.int .u32 65):=by rw [cell_of ht2];rfl
   have t10:wr.cell? ⟨r+1,10,none⟩=some (.int .u32 65):=by rw [cell_of ht2];rfl
   have q0:wr.cell? ⟨r,0,none⟩=some (.int .i64 0):=by rw [cell_of hr2];rfl
   have q1:wr.cell? ⟨r,1,none⟩=some (.int .i64 0):=by rw [cell_of hr2];rfl
   have q2:wr.cell? ⟨r,2,none⟩=some (.int .i64 0):=by rw [cell_of hr2];rfl
   have q3:wr.cell? ⟨r,3,none⟩=some (.int .i64 0):=by rw [cell_of hr2];rfl
   have q4:wr.cell? ⟨r,4,none⟩=some (.int .i64 0):=by rw [cell_of hr2];rfl
   have q5:wr.cell? ⟨r,5,none⟩=some (.int .i64 0):=by rw [cell_of hr2];rfl
   have q6:wr.cell? ⟨r,6,none⟩=some (.int .i64 0):=by rw [cell_of hr2];rfl
   have q7:wr.cell? ⟨r,7,none⟩=some (.int .i64 0):=by rw [cell_of hr2];rfl
   have q8:wr.cell? ⟨r,8,none⟩=some (.int .i64 0):=by rw [cell_of hr2];rfl
   have q9:wr.cell? ⟨r,9,none⟩=some (.int .u32 0):=by rw [cell_of hr2];rfl
   have q10:wr.cell? ⟨r,10,none⟩=some (.int .u32 0):=by rw [cell_of hr2];rfl
   have fz:=frozen_of hr2;have HR2:=Lib.hid hr2;have HB2:=Lib.hid hb2;clear hr2 hb2 ht2;go_wp2_with fail;obtain ⟨wf,hwf⟩:∃wf,wf=(World.setCell (World.setCell (World.setCell (World.setCell (World.setCell (World.setCell (World.setCell (World.setCell (World.setCell (World.setCell (World.setCell wr ⟨r,0,none⟩ (.int .i64 1)) ⟨r,1,none⟩ (.int .i64 1)) ⟨r,2,none⟩ (.int .i64 1)) ⟨r,3,none⟩ (.int .i64 0)) ⟨r,4,none⟩ (.int .i64 1)) ⟨r,5,none⟩ (.int .i64 0)) ⟨r,6,none⟩ (.int .i64 0)) ⟨r,7,none⟩ (.int .i64 0)) ⟨r,8,none⟩ (.int .i64 0)) ⟨r,9,none⟩ (.int .u32 65)) ⟨r,10,none⟩ (.int .u32 65)):=⟨_,rfl⟩
   have hf:wf.heap[r]? =some (.cells tallyV 50 (0,0)):=by
    rw [hwf]
    have h:=HR2.out
    replace h:=heap_setCell_same _ _ 0 _ _ (.int .i64 1) h
    replace h:=heap_setCell_same _ _ 1 _ _ (.int .i64 1) h
    replace h:=heap_setCell_same _ _ 2 _ _ (.int .i64 1) h
    replace h:=heap_setCell_same _ _ 3 _ _ (.int .i64 0) h
    replace h:=heap_setCell_same _ _ 4 _ _ (.int .i64 1) h
    replace h:=heap_setCell_same _ _ 5 _ _ (.int .i64 0) h
    replace h:=heap_setCell_same _ _ 6 _ _ (.int .i64 0) h
    replace h:=heap_setCell_same _ _ 7 _ _ (.int .i64 0) h
    replace h:=heap_setCell_same _ _ 8 _ _ (.int .i64 0) h
    replace h:=heap_setCell_same _ _ 9 _ _ (.int .u32 65) h
    replace h:=heap_setCell_same _ _ 10 _ _ (.int .u32 65) h
    rw [h]
    rfl
   have hbf:Below w.heap.size w wf:=by
    rw [hwf]
    have h:=HB2.out
    replace h:=h.setCell (p:=⟨r,0,none⟩) (by have:=HRw.out;show w.heap.size≤r;omega) (.int .i64 1)
    replace h:=h.setCell (p:=⟨r,1,none⟩) (by have:=HRw.out;show w.heap.size≤r;omega) (.int .i64 1)
    replace h:=h.setCell (p:=⟨r,2,none⟩) (by have:=HRw.out;show w.heap.size≤r;omega) (.int .i64 1)
    replace h:=h.setCell (p:=⟨r,3,none⟩) (by have:=HRw.out;show w.heap.size≤r;omega) (.int .i64 0)
    replace h:=h.setCell (p:=⟨r,4,none⟩) (by have:=HRw.out;show w.heap.size≤r;omega) (.int .i64 1)
    replace h:=h.setCell (p:=⟨r,5,none⟩) (by have:=HRw.out;show w.heap.size≤r;omega) (.int .i64 0)
    replace h:=h.setCell (p:=⟨r,6,none⟩) (by have:=HRw.out;show w.heap.size≤r;omega) (.int .i64 0)
    replace h:=h.setCell (p:=⟨r,7,none⟩) (by have:=HRw.out;show w.heap.size≤r;omega) (.int .i64 0)
    replace h:=h.setCell (p:=⟨r,8,none⟩) (by have:=HRw.out;show w.heap.size≤r;omega) (.int .i64 0)
    replace h:=h.setCell (p:=⟨r,9,none⟩) (by have:=HRw.out;show w.heap.size≤r;omega) (.int .u32 65)
    replace h:=h.setCell (p:=⟨r,10,none⟩) (by have:=HRw.out;show w.heap.size≤r;omega) (.int .u32 65)
    exact h
   rw [←hwf]
   have e0:wf.cell? ⟨r,0,none⟩=some (.int .i64 1):=by rw [cell_of hf];rfl
   have e1:wf.cell? ⟨r,1,none⟩=some (.int .i64 1):=by rw [cell_of hf];rfl
   have e2:wf.cell? ⟨r,2,none⟩=some (.int .i64 1):=by rw [cell_of hf];rfl
   have e3:wf.cell? ⟨r,3,none⟩=some (.int .i64 0):=by rw [cell_of hf];rfl
   have e4:wf.cell? ⟨r,4,none⟩=some (.int .i64 1):=by rw [cell_of hf];rfl
   have e5:wf.cell? ⟨r,5,none⟩=some (.int .i64 0):=by rw [cell_of hf];rfl
   have e6:wf.cell? ⟨r,6,none⟩=some (.int .i64 0):=by rw [cell_of hf];rfl
   have e7:wf.cell? ⟨r,7,none⟩=some (.int .i64 0):=by rw [cell_of hf];rfl
   have e8:wf.cell? ⟨r,8,none⟩=some (.int .i64 0):=by rw [cell_of hf];rfl
   have e9:wf.cell? ⟨r,9,none⟩=some (.int .u32 65):=by rw [cell_of hf];rfl
   have e10:wf.cell? ⟨r,10,none⟩=some (.int .u32 65):=by rw [cell_of hf];rfl
   refine bodyPost_ret (v:=.agg tallyV) (by simp [results,Tryz.results20,go_sem,tallyV,e0,e1,e2,e3,e4,e5,e6,e7,e8,e9,e10]) rfl ⟨rfl,hbf⟩
end Dcd
namespace Dcd
open Go.RowKit Win Stp Mach Dec Go.Proofs.YtooiooledeblmaaGreatW.PrintMore Out Lst
def LenPost (w:World) (n:Nat) (e:Ending) (w':World):Prop:=(∃s:ByteArray,e= .returned (.string s)∧s.size=n)∧Below w.heap.size w w'
set_option maxHeartbeats 2000000 in
theorem four_calls (n:Int) (w:World):Calls Tryz.prog 103 #[.int .u32 n] w (LenPost w 4):=by
 have w1:IntKind.u8.wrap n=n%256:=by rw [IntKind.wrap_u8]
 have w2:IntKind.u8.wrap (n/256)=n/256%256:=by rw [IntKind.wrap_u8]
 have w3:IntKind.u8.wrap (n/65536)=n/65536%256:=by rw [IntKind.wrap_u8]
 have w4:IntKind.u8.wrap (n/16777216)=n/16777216%256:=by rw [IntKind.wrap_u8]
 have hcv:(convert 68 9 (.slice (some ⟨w.heap.size,0,none⟩) 4 4)).run Tryz.prog (w.alloc (.cells #[.int .u8 (n%256),.int .u8 (n/256%256),.int .u8 (n/65536%256),.int .u8 (n/16777216%256)] 5))= .ok (.string (strOfNums [n%256,n/256%256,n/65536%256,n/16777216%256])) (w.alloc (.cells #[.int .u8 (n%256),.int .u8 (n/256%256),.int .u8 (n/65536%256),.int .u8 (n/16777216%256)] 5)):=conv_new w [n%256,n/256%256,n/65536%256,n/16777216%256] 4 rfl;go_enter Tryz.func103,Tryz.ntmps103;go_wp2;go_ret;exact ⟨⟨_,rfl,str_size _⟩,(Below.refl _ _).alloc (Nat.le_refl _) _⟩
set_option maxHeartbeats 4000000 in
theorem sum_add (g:Nat) (x:Int) (s:ByteArray) (w:World) (h:w.heap[g]? =some (.cells #[.int .u32 x] 217 (0,0))) (hs:s.size≤1000000):
  Calls Tryz.prog 115 #[.pointer (some ⟨g,0,none⟩),.string s] w fun e w'=>e= .returned (.tuple #[])∧∃y,w'=w.setCell ⟨g,0,none⟩ (.int .u32 y):=by
 have c0:w.cell? ⟨g,0,none⟩=some (.int .u32 x):=by rw [cell_of h];rfl
 have f0:=frozen_of h 0;clear h;go_enter Tryz.func115,Tryz.ntmps115;go_wp2_with fail;go_loopw [4,5] (fun v4 v5 wr=>w=wr∧(∃y,v4= .int .u32 y)∧∃k:Nat,k≤s.size∧v5= .int .i64 k) (fun _ v5 _=>s.size-(intOf v5).toNat)
 case atStart=>exact ⟨rfl,⟨_,rfl⟩,0,Nat.zero_le _,rfl⟩
 case round=>
  obtain ⟨rfl,⟨y,rfl⟩,k,hk,rfl⟩:=hrel
  by_cases hlt:k<s.size
  ·go_wp2_with fail
   go_loopw [4,23] (fun v4 v23 wr=>w=wr∧(∃y,v4= .int .u32 y)∧∃j:Nat,j≤8∧v23= .int .i64 j) (fun _ v23 _=>8-(intOf v23).toNat)
   case atStart=>exact ⟨rfl,⟨_,rfl⟩,0,Nat.zero_le _,rfl⟩
   case round=>
    obtain ⟨rfl,⟨z,rfl⟩,j,hj,rfl⟩:=hrel
    by_cases hj8:j<8
    ·go_wp2_with fail
     go_roundw
     case rel=>exact ⟨trivial,⟨_,rfl⟩,j+1,hj8,by go_num⟩
     case measure=>simp [intOf];omega
    ·obtain rfl:j=8:=by omega
     clear hj8;go_wp2_with fail;go_roundw
     case rel=>exact ⟨trivial,⟨_,rfl⟩,k+1,hlt,by go_num⟩
     case measure=>simp [intOf];omega
  ·obtain rfl:k=s.size:=by omega
   go_wp2_with fail;go_end0;exact ⟨rfl,_,rfl⟩
theorem sum_now (g:Nat) (x:Int) (w:World) (h:w.cell? ⟨g,0,none⟩=some (.int .u32 x)):Calls Tryz.prog 116 #[.pointer (some ⟨g,0,none⟩)] w fun e w'=>e= .returned (.int .u32 x)∧w=w':=by
 go_enter Tryz.func116,Tryz.ntmps116;go_wp2;go_ret;exact ⟨rfl,rfl⟩
set_option maxHeartbeats 4000000 in
theorem crc_of (a:Nat) (s:ByteArray) (w:World) (h:w.cell? ⟨a,0,none⟩=some (.string s)) (hs:s.size≤1000000):Calls Tryz.prog 105 #[.slice (some ⟨a,0,none⟩) 1 1] w fun e w'=>(∃y,e= .returned (.int .u32 y))∧Below w.heap.size w w':=by
 have hlt:a<w.heap.size:=World.block_lt_of_cell? w _ h;go_enter Tryz.func105,Tryz.ntmps105;go_wp2_with fail;obtain ⟨g,hg⟩:∃g,g=w.heap.size:=⟨_,rfl⟩
 obtain ⟨w1,hw1⟩:∃w1,w1=w.alloc (.cells #[.int .u32 0] 217):=⟨_,rfl⟩
 rw [←hg,←hw1]
 have hs1:w1.heap[g]? =some (.cells #[.int .u32 0] 217 (0,0)):=by rw [hw1,hg];exact heap_alloc_new _ _
 have hb1:Below w.heap.size w w1:=by rw [hw1];exact (Below.refl _ _).alloc (Nat.le_refl _) _
 have ha1:w1.cell? ⟨a,0,none⟩=some (.string s):=(hb1.cell (p:=⟨a,0,none⟩) hlt).trans h;have HS:=Lib.hid hs1;have HB:=Lib.hid hb1;have HG:=Lib.hid hg;clear hg hw1 hs1 hb1 h;go_loopw [5,8] (fun v5 v8 wr=>(v8= .int .i64 0∧w1=wr)∨(v8= .int .i64 1∧∃y,wr=w1.setCell ⟨g,0,none⟩ (.int .u32 y))) (fun _ v8 _=>1-(intOf v8).toNat)
 case atStart=>exact .inl ⟨rfl,rfl⟩
 case round=>
  rcases hrel with ⟨rfl,rfl⟩|⟨rfl,y,rfl⟩
  ·go_wp2_with fail
   refine (sum_add g 0 s w1 HS.out hs).mono ?_;rintro e w2 ⟨rfl,y,rfl⟩
   go_wp2_with fail;go_roundw
   case rel=>exact .inr ⟨rfl,y,rfl⟩
   case measure=>decide
  ·have hc:(w1.setCell ⟨g,0,none⟩ (.int .u32 y)).cell? ⟨g,0,none⟩=some (.int .u32 y):=World.cell?_setCell_same (u:=.int .u32 0) _ _ _ (by rw [cell_of HS.out];rfl)
   have HB2:=Lib.hid (HB.out.setCell (p:=⟨g,0,none⟩) (by have:=HG.out;show w.heap.size≤g;omega) (.int .u32 y))
   generalize w1.setCell ⟨g,0,none⟩ (.int .u32 y)=w2 at hc HB2 ⊢;go_wp2_with fail;refine (sum_now g y w2 hc).mono ?_;rintro e w3 ⟨rfl,rfl⟩
   go_wp2_with fail;go_ret;exact ⟨⟨_,rfl⟩,HB2.out⟩
end Dcd
namespace Dcd
open Go.RowKit Win Stp Mach Dec Go.Proofs.YtooiooledeblmaaGreatW.PrintMore Out Lst
set_option maxHeartbeats 2000000 in
theorem eight_calls (n:Int) (w:World):Calls Tryz.prog 104 #[.int .u64 n] w (LenPost w 8):=by
 go_enter Tryz.func104,Tryz.ntmps104;go_wp2_with fail;refine (four_calls _ _).mono ?_;rintro e w1 ⟨⟨s1,rfl,h1⟩,hb1⟩
 go_wp2_with fail;refine (four_calls _ _).mono ?_;rintro e w2 ⟨⟨s2,rfl,h2⟩,hb2⟩
 have ha:(s1++s2).size=8:=by rw [ByteArray.size_append];omega
 go_wp2_with fail;go_ret;exact ⟨⟨_,rfl,ha⟩,hb1.trans (Below.mono hb2 hb1.size)⟩
theorem conv2 (w:World) (x y:Int):(convert 68 9 (.slice (some ⟨w.heap.size,0,none⟩) 2 2)).run Tryz.prog (w.alloc (.cells #[.int .u8 x,.int .u8 y] 5)).drew= .ok (.string (strOfNums [x,y])) (w.alloc (.cells #[.int .u8 x,.int .u8 y] 5)).drew:=conv_newd w [x,y] 2 rfl
theorem conv2' (w:World) (x y:Int):(convert 68 9 (.slice (some ⟨w.heap.size,0,none⟩) 2 2)).run Tryz.prog (w.alloc (.cells #[.int .u8 x,.int .u8 y] 5))= .ok (.string (strOfNums [x,y])) (w.alloc (.cells #[.int .u8 x,.int .u8 y] 5)):=conv_new w [x,y] 2 rfl
theorem conv2k {w w1:World} {x y:Int} (hb:Below (w.alloc (.cells #[.int .u8 x,.int .u8 y] 5)).drew.heap.size (w.alloc (.cells #[.int .u8 x,.int .u8 y] 5)).drew w1):(convert 68 9 (.slice (some ⟨w.heap.size,0,none⟩) 2 2)).run Tryz.prog w1= .ok (.string (strOfNums [x,y])) w1:=
 bytes_of (w:=w1) (l:=[x,y]) ((hb.block w.heap.size (by show w.heap.size<(w.alloc _).heap.size;simp)).trans (heap_alloc_new w _))
theorem below_four1 {w w1:World} {o:Obj} (hb:Below (w.alloc o).drew.heap.size (w.alloc o).drew w1):Below w.heap.size w w1:=by
 have h1:Below w.heap.size w (w.alloc o).drew:=below_drewN ((Below.refl _ _).alloc (Nat.le_refl _) _) 1;exact h1.trans (Below.mono hb h1.size)
theorem below_four2 {w w1:World} {o:Obj} (hb:Below w.drew.heap.size w.drew w1):Below w.heap.size w (w1.alloc o):=by
 have h1:Below w.heap.size w w.drew:=below_drewN (Below.refl _ _) 1;have h2:=h1.trans (Below.mono hb h1.size)
 exact h2.alloc h2.size _
set_option maxRecDepth 100000 in
set_option maxHeartbeats 8000000 in
theorem head_calls (c n:Int) (w:World):Calls Tryz.prog 99 #[.int .i64 c,.int .i64 n] w (LenPost w 14):=by
 have w1:IntKind.u8.wrap c=c%256:=by rw [IntKind.wrap_u8]
 have hcv:=conv2 w 1 (c%256)
 have hs1:=str_size [1,c%256]
 go_enter Tryz.func99,Tryz.ntmps99;go_upto_region 1 with fail;go_cut [5] (fun v wx=>(∃T:ByteArray,v= .string T∧T.size=10)∧Below w.heap.size w wx)
 case first=>
  go_region_with (go_at_call 103;refine (four_calls _ _).mono ?_;rintro e w1 ⟨⟨s1,rfl,h1⟩,hb1⟩;first|have hcv1:=conv2k hb1|have hcv1:=conv2' w1 1 (c%256))
  all_goals
   have hT:((⟨#[80,73,76,67]⟩:ByteArray)++strOfNums [1,c%256]++s1).size=10:=by
    rw [ByteArray.size_append,ByteArray.size_append,hs1,h1]
    rfl
   go_wp2_with fail;go_meet;refine ⟨⟨_,rfl,hT⟩,?_⟩
   first
    |exact below_four1 hb1
    |exact below_four2 hb1
 case rest=>
  obtain ⟨⟨T,rfl,hT⟩,hb⟩:=hcut;have hwT:wc.heap.size≤wc.heap.size:=Nat.le_refl _;have HB:=Lib.hid hb;clear hb hcv hs1 w1;go_wp2_with fail;refine (crc_of wc.heap.size T (wc.alloc (.cells #[.string T] 9)) (by rw [cell_of (heap_alloc_new _ _)];rfl) (by omega)).mono ?_;rintro e w2 ⟨⟨y,rfl⟩,hb2⟩
  have HB2:=Lib.hid ((HB.out.alloc HB.out.size _).trans (Below.mono hb2 (by have:=HB.out.size;simp;omega)))
  clear hb2;go_wp2_with fail;refine (four_calls _ _).mono ?_;rintro e w3 ⟨⟨s3,rfl,h3⟩,hb3⟩
  have hTs:(T++s3).size=14:=by rw [ByteArray.size_append];omega
  have HB3:=Lib.hid (HB2.out.trans (Below.mono hb3 HB2.out.size))
  clear hb3;go_wp2_with fail;go_ret;exact ⟨⟨_,rfl,hTs⟩,HB3.out⟩
end Dcd
namespace Phi
open Go.RowKit Go.Proofs.YtooiooledeblmaaGreatW.PrintWords Go.Proofs.YtooiooledeblmaaGreatW.PrintLast Go.Proofs.YtooiooledeblmaaGreatW.PrintMore
def dstOf (ops:Array Oper) (j:Nat):Option Tmp:=(ops[j]?).bind (·.dst)
section
variable {P:Program} {ops:Array Oper} {Q:Exit→Act→World→Prop} {md:Region.Mode} {T:Bool×List (List Nat×List Nat)} {B:List Nat}
def PhiStep (P:Program) (ops:Array Oper) (Q:Exit→Act→World→Prop) (B:List Nat) (O:List Nat) (a0:Act) (G:World→Prop) (R:World→World→Prop) (F:Nat→Value→World→Prop) (i:Nat):Prop:=
 ∀(a:Act) (w:World),G w→(∀t,(O.all fun j=> !(dstOf ops j==some t))=true→a.tmps[t]? =a0.tmps[t]?)→
  (∀j,(O.contains j&&(B.getD i 0).testBit j)=true→∃v,(∀t,dstOf ops j=some t→a.tmps[t]? =some v)∧F j v w)→
  ∃oi,ops[i]? =some oi∧∀K:Act→World→Prop,Shut (∀v w',F i v w'→G w'→R w w'→K (a.put oi.dst v) w')→
   if Region.wanted oi (yielded ops a.tmps)=true then Oper.wp P oi a w K Q else K (a.put oi.dst undef) w
theorem phi_nil {O:List Nat} {a0:Act} {G:World→Prop} {R:World→World→Prop} {F:Nat→Value→World→Prop}:∀i∈([]:List Nat),PhiStep P ops Q B O a0 G R F i:=fun _ h=>by cases h
theorem phi_cons {O:List Nat} {a0:Act} {G:World→Prop} {R:World→World→Prop} {F:Nat→Value→World→Prop} {i:Nat} {rs:List Nat} (h:PhiStep P ops Q B O a0 G R F i) (hs:∀j∈rs,PhiStep P ops Q B O a0 G R F j):∀j∈i::rs,PhiStep P ops Q B O a0 G R F j:=fun j hj=>by
 rcases List.mem_cons.1 hj with rfl|hj
 ·exact h
 ·exact hs j hj
def putAll (ops:Array Oper) (vals:Nat→Value):List Nat→Act→Act
 |[],a=>a
 |j::r,a=>putAll ops vals r (a.put (dstOf ops j) (vals j))
def dstOk (ops:Array Oper) (n:Nat):List Nat→Bool
 |[]=>true
 |j::r=>(match dstOf ops j with|none=>true|some t=>decide (t<n)&&r.all fun i=> !(dstOf ops i==some t))&&dstOk ops n r
theorem put_get (a:Act) (d:Option Tmp) (v:Value) (t:Nat):(a.put d v).tmps[t]? =if d=some t∧t<a.tmps.size then some v else a.tmps[t]? :=by
 cases d with
 |none=>simp [Act.put]
 |some s=>
  simp only [Act.put,Array.getElem?_setIfInBounds,Option.some.injEq]
  by_cases h:s=t
  ·subst h
   by_cases h2:s<a.tmps.size
   ·simp [h2]
   ·simp [h2]
  ·simp [h]
theorem put_size (a:Act) (d:Option Tmp) (v:Value):(a.put d v).tmps.size=a.tmps.size:=by cases d <;>simp [Act.put]
theorem put_defers (a:Act) (d:Option Tmp) (v:Value):(a.put d v).defers=a.defers:=by cases d <;>simp [Act.put]
theorem putAll_size (vals:Nat→Value):∀(O:List Nat) (a:Act),(putAll ops vals O a).tmps.size=a.tmps.size∧(putAll ops vals O a).defers=a.defers
 |[],a=>⟨rfl,rfl⟩
 |j::r,a=>by
  have:=putAll_size vals r (a.put (dstOf ops j) (vals j))
  rw [put_size,put_defers] at this;exact this
theorem putAll_off (vals:Nat→Value):∀(O:List Nat) (a:Act) (t:Nat),(O.all fun j=> !(dstOf ops j==some t))=true→(putAll ops vals O a).tmps[t]? =a.tmps[t]?
 |[],a,t,_=>rfl
 |j::r,a,t,h=>by
  rw [List.all_cons,Bool.and_eq_true] at h;have h1:¬dstOf ops j=some t:=by simpa using h.1
  rw [putAll,putAll_off vals r _ t h.2,put_get,if_neg (fun h2=>h1 h2.1)]
theorem putAll_on (vals:Nat→Value) (n:Nat):∀(O:List Nat) (a:Act) (j t:Nat),dstOk ops n O=true→n≤a.tmps.size→j∈O→dstOf ops j=some t→(putAll ops vals O a).tmps[t]? =some (vals j)
 |[],a,j,t,_,_,hj,_=>by cases hj
 |i::r,a,j,t,hd,hn,hj,ht=>by
  unfold dstOk at hd;rw [Bool.and_eq_true] at hd;rcases List.mem_cons.1 hj with rfl|hj
  ·rw [ht] at hd
   simp only [Bool.and_eq_true,decide_eq_true_eq] at hd;have h9:t<n:=hd.1.1;rw [putAll,putAll_off vals r _ t hd.1.2,put_get,if_pos ⟨ht,by omega⟩]
  ·rw [putAll]
   exact putAll_on vals n r _ j t hd.2 (by rw [put_size];exact hn) hj ht
theorem dstOk_ne {n:Nat}:∀{O:List Nat},dstOk ops n O=true→∀i j t,i∈O→j∈O→dstOf ops i=some t→dstOf ops j=some t→O.Nodup→i=j
 |[],_,i,j,t,hi,_,_,_,_=>by cases hi
 |x::r,hd,i,j,t,hi,hj,h1,h2,hn=>by
  unfold dstOk at hd;rw [Bool.and_eq_true] at hd;rw [List.nodup_cons] at hn;rcases List.mem_cons.1 hi with e1|hi2
  ·rcases List.mem_cons.1 hj with e2|hj'
   ·rw [e1,e2]
   ·subst e1
    rw [h1] at hd;simp only [Bool.and_eq_true,List.all_eq_true] at hd;have:=hd.1.2 j hj';rw [h2] at this;simp at this
  ·rcases List.mem_cons.1 hj with e2|hj2
   ·subst e2
    rw [h2] at hd;simp only [Bool.and_eq_true,List.all_eq_true] at hd;have:=hd.1.2 i hi2;rw [h1] at this;simp at this
   ·exact dstOk_ne hd.2 i j t hi2 hj2 h1 h2 hn.2
theorem dstOk_lt {n:Nat}:∀{O:List Nat},dstOk ops n O=true→∀i t,i∈O→dstOf ops i=some t→t<n
 |[],_,i,t,hi,_=>by cases hi
 |x::r,hd,i,t,hi,h1=>by
  unfold dstOk at hd;rw [Bool.and_eq_true] at hd;rcases List.mem_cons.1 hi with e1|hi
  ·subst e1
   rw [h1] at hd;simp only [Bool.and_eq_true,decide_eq_true_eq] at hd;exact hd.1.1
  ·exact dstOk_lt hd.2 i t hi h1
def PhiInv (ops:Array Oper) (O:List Nat) (a0:Act) (G:World→Prop) (F:Nat→Value→World→Prop) (b:Nat→Bool) (a:Act) (w:World):Prop:=
 a.tmps.size=a0.tmps.size∧a.defers=a0.defers∧(∀t,(O.all fun j=> !(dstOf ops j==some t))=true→a.tmps[t]? =a0.tmps[t]?)∧G w∧
  ∀j∈O,b j=true→∃v,(∀t,dstOf ops j=some t→a.tmps[t]? =some v)∧F j v w
theorem phi_ {l:Array Bool} {fuel:Nat} {a:Act} {w:World} (n:Nat) (O:List Nat) (G:World→Prop) (R:World→World→Prop) (F:Nat→Value→World→Prop) (hT:rtab md ops=T) (hw:waitsOk T.2 B=true) (hk:baseOk T.2 O=true)
  (hl:(lof T.2.length O (fun _=>false)==l.toList&&O.length==fuel)=true) (hd:dstOk ops n O=true) (hn:n≤a.tmps.size) (hG:G w)
  (hR:∀j v w1 w2,R w1 w2→F j v w1→F j v w2) (hs:∀i∈O,PhiStep P ops Q B O a G R F i)
  (hend:∀(vals:Nat→Value) (w':World),G w'→(∀j∈O,F j (vals j) w')→Q .normal (putAll ops vals O a) w'):wpAnyLast P md ops Q (fun _=>True) [] fuel l a w:=by
 have hnd:=baseOk_nodup hk;refine inv_ O (PhiInv ops O a G F) hT hw hk hl ⟨rfl,rfl,fun _ _=>rfl,hG,fun _ _ h=>by cases h⟩ ?_ ?_
 ·intro i hi b a' w' hI hb hon _
  obtain ⟨h1,h2,h3,h4,h5⟩:=hI;obtain ⟨oi,hoi,hK⟩:=hs i hi a' w' h4 h3 (fun j hj=>by
   have h6:=hon j hj;rw [Bool.and_eq_true] at hj;exact h5 j (List.contains_iff_mem.1 hj.1) h6)
  refine ⟨oi,hoi,fun K hK'=>hK K (fun v w2 f g r=>?_)⟩
  have hdi:dstOf ops i=oi.dst:=by unfold dstOf;rw [hoi];rfl
  refine hK' _ _ ⟨by rw [put_size,h1],by rw [put_defers,h2],fun t ht=>?_,g,fun j hj hbj=>?_⟩
  ·rw [put_get,if_neg,h3 t ht]
   rintro ⟨h6,_⟩
   have:=List.all_eq_true.1 ht i hi;rw [hdi,h6] at this;simp at this
  ·by_cases hji:j=i
   ·subst hji
    refine ⟨v,fun t ht=>?_,f⟩
    have h8:(t:Nat)<n:=dstOk_lt hd _ _ hj ht;rw [put_get,if_pos ⟨by rw [←hdi];exact ht,Nat.lt_of_lt_of_le h8 (by rw [h1];exact hn)⟩]
   ·rw [up_ne hji] at hbj
    obtain ⟨v2,h6,h7⟩:=h5 j hj hbj;refine ⟨v2,fun t ht=>?_,hR _ _ _ _ r h7⟩
    rw [put_get,if_neg,h6 t ht]
    rintro ⟨h8,_⟩
    rw [←hdi] at h8;exact hji (dstOk_ne hd j i t hj hi ht h8 hnd)
 ·intro b a' w' hb hI
  obtain ⟨h1,h2,h3,h4,h5⟩:=hI;have h6:∀j,∃v,j∈O→(∀t,dstOf ops j=some t→a'.tmps[t]? =some v)∧F j v w':=by
   intro j
   by_cases hj:j∈O
   ·obtain ⟨v,h⟩:=h5 j hj (hb j (List.contains_iff_mem.2 hj))
    exact ⟨v,fun _=>h⟩
   ·exact ⟨undef,fun h=>absurd h hj⟩
  let vals:Nat→Value:=fun j=>Classical.choose (h6 j)
  have hv:∀j∈O,(∀t,dstOf ops j=some t→a'.tmps[t]? =some (vals j))∧F j (vals j) w':=fun j hj=>Classical.choose_spec (h6 j) hj
  have he:a'=putAll ops vals O a:=by
   have hp:=putAll_size (ops:=ops) vals O a
   cases a' with
   |mk tm df=>
    generalize hq:putAll ops vals O a=q at hp
    cases q with
    |mk tm2 df2=>
     simp only at h1 h2 hp;have ht:tm=tm2:=by
      apply Array.ext_getElem?;intro t
      by_cases ho:(O.all fun j=> !(dstOf ops j==some t))=true
      ·have:=putAll_off (ops:=ops) vals O a t ho
       rw [hq] at this;exact (h3 t ho).trans this.symm
      ·rw [List.all_eq_true] at ho
       have:∃j∈O,dstOf ops j=some t:=by
        apply Classical.byContradiction;intro hne;apply ho;intro j hj;simp only [Bool.not_eq_true',beq_eq_false_iff_ne,ne_eq]
        exact fun h=>hne ⟨j,hj,h⟩
       obtain ⟨j,hj,hjt⟩:=this;have:=putAll_on (ops:=ops) vals n O a j t hd hn hj hjt;rw [hq] at this;exact ((hv j hj).1 t hjt).trans this.symm
     subst ht;have:df=df2:=h2.trans hp.2.symm;subst this
     rfl
  rw [he]
  exact hend vals w' h4 (fun j hj=>(hv j hj).2)
end
end Phi
namespace Dcd
open Go.RowKit Win Stp Mach Dec Phi Go.Proofs.YtooiooledeblmaaGreatW.PrintWords Go.Proofs.YtooiooledeblmaaGreatW.PrintLast Go.Proofs.YtooiooledeblmaaGreatW.PrintMore Out Lst
def StrOf (n:Nat) (v:Value):Prop:=∃s:ByteArray,v= .string s∧s.size=n
def OneBlk (x:Int) (v:Value) (w:World):Prop:=∃k,v= .slice (some ⟨k,0,none⟩) 1 1∧w.heap[k]? =some (.cells #[.int .u8 x] 5 (0,0))
theorem OneBlk.below {x:Int} {v:Value} {w w1:World} (h:OneBlk x v w) (hb:Below w.heap.size w w1):OneBlk x v w1:=by
 obtain ⟨k,rfl,h1⟩:=h;exact ⟨k,rfl,(hb.block k (Array.getElem?_eq_some_iff.1 h1).1).trans h1⟩
theorem conv_blk {w:World} {k:Nat} {x:Int} (h:w.heap[k]? =some (.cells #[.int .u8 x] 5 (0,0))):(convert 68 9 (.slice (some ⟨k,0,none⟩) 1 1)).run Tryz.prog w= .ok (.string (strOfNums [x])) w:=bytes_of (w:=w) (l:=[x]) h
def Keeps (l:List (Value→World→Prop)):Prop:=∀j v w1 w2,Below w1.heap.size w1 w2→l.getD j (fun _ _=>True) v w1→l.getD j (fun _ _=>True) v w2
theorem Keeps.nil:Keeps []:=fun j v w1 w2 _ _=>by cases j <;>trivial
theorem Keeps.cons {P:Value→World→Prop} {l:List (Value→World→Prop)} (h:∀v w1 w2,Below w1.heap.size w1 w2→P v w1→P v w2) (hl:Keeps l):Keeps (P::l):=fun j v w1 w2 hb hp=>by
 cases j with
 |zero=>exact h v w1 w2 hb hp
 |succ j=>exact hl j v w1 w2 hb hp
def cend.T1:Bool×List (List Nat×List Nat):=(true,[([],[]),([0],[0]),([],[]),([2],[2]),([3],[3]),([4],[4]),([5],[5]),([1,6],[1,6]),([],[]),([8],[8]),([9],[9]),([10],[10]),([11,6],[11]),([7,12],[7,12]),([],[]),([14],[14]),([15],[15]),([16],[16]),([17,12],[17]),([13,18],[13,18]),([19,18,0,1,2,3,4,5,6,7,8,9,10,11,12,13,14,15,16,17,18,19],[19])])
def cend.B1:List Nat:=[0,1,0,4,12,28,60,127,0,256,768,1792,3964,8191,0,16384,49152,114688,253820,524287,1048575]
theorem cend.tab1:rtab .any (opsOf Tryz.f61 1)=cend.T1:=by kernel_rfl
theorem cend.bits1:waitsOk cend.T1.2 cend.B1=true:=by kernel_rfl
structure EndG (g q:Nat) (a b c:Int) (w w':World):Prop where
 bel:Below w.heap.size w w'
 c0:w'.cell? ⟨g,q,none⟩=some (.int .u32 a)
 c1:w'.cell? ⟨g,q+1,none⟩=some (.int .u64 b)
 c2:w'.cell? ⟨g,q+2,none⟩=some (.int .u64 c)
theorem EndG.below {g q:Nat} {a b c:Int} {w w1 w2:World} (h:EndG g q a b c w w1) (hb:Below w1.heap.size w1 w2):EndG g q a b c w w2:=by
 have hlt:g<w1.heap.size:=World.block_lt_of_cell? w1 _ h.c0;exact ⟨h.bel.trans (Below.mono hb h.bel.size),(hb.cell (p:=⟨g,q,none⟩) hlt).trans h.c0,(hb.cell (p:=⟨g,q+1,none⟩) hlt).trans h.c1,(hb.cell (p:=⟨g,q+2,none⟩) hlt).trans h.c2⟩
set_option maxRecDepth 100000 in
set_option maxHeartbeats 16000000 in
theorem end_calls2 (g q:Nat) (a b c:Int) (w:World) (h0:w.cell? ⟨g,q,none⟩=some (.int .u32 a)) (h1:w.cell? ⟨g,q+1,none⟩=some (.int .u64 b)) (h2:w.cell? ⟨g,q+2,none⟩=some (.int .u64 c)):
  Calls Tryz.prog 61 #[.pointer (some ⟨g,q,none⟩)] w (LenPost w 25):=by
 go_enter Tryz.func61,Tryz.ntmps61;go_upto_region 1 with fail;go_cut [3] (fun v wx=>(∃T:ByteArray,v= .string T∧T.size=21)∧Below w.heap.size w wx)
 case first=>
  have HKp:Keeps [OneBlk 90,(fun v _=>v= .string (strOfNums [90])),(fun v _=>v= .pointer (some ⟨g,q,none⟩)),(fun v _=>v= .pointer (some ⟨g,q,none⟩)),(fun v _=>v= .pointer (some ⟨g,q,none⟩)),(fun v _=>v= .int .u32 a),(fun v _=>StrOf 4 v),(fun v _=>StrOf 5 v),(fun v _=>v= .pointer (some ⟨g,q,none⟩)),(fun v _=>v= .pointer (some ⟨g,q,none⟩)),(fun v _=>v= .pointer (some ⟨g,q+1,none⟩)),(fun v _=>v= .int .u64 b),(fun v _=>StrOf 8 v),(fun v _=>StrOf 13 v),(fun v _=>v= .pointer (some ⟨g,q,none⟩)),(fun v _=>v= .pointer (some ⟨g,q,none⟩)),(fun v _=>v= .pointer (some ⟨g,q+2,none⟩)),(fun v _=>v= .int .u64 c),(fun v _=>StrOf 8 v),(fun v _=>StrOf 21 v),(fun v _=>StrOf 21 v)]:=Keeps.cons (fun v w1 w2 hb h=>OneBlk.below h hb) (Keeps.cons (fun v w1 w2 _ h=>h) (Keeps.cons (fun v w1 w2 _ h=>h) (Keeps.cons (fun v w1 w2 _ h=>h) (Keeps.cons (fun v w1 w2 _ h=>h) (Keeps.cons (fun v w1 w2 _ h=>h) (Keeps.cons (fun v w1 w2 _ h=>h) (Keeps.cons (fun v w1 w2 _ h=>h) (Keeps.cons (fun v w1 w2 _ h=>h) (Keeps.cons (fun v w1 w2 _ h=>h) (Keeps.cons (fun v w1 w2 _ h=>h) (Keeps.cons (fun v w1 w2 _ h=>h) (Keeps.cons (fun v w1 w2 _ h=>h) (Keeps.cons (fun v w1 w2 _ h=>h) (Keeps.cons (fun v w1 w2 _ h=>h) (Keeps.cons (fun v w1 w2 _ h=>h) (Keeps.cons (fun v w1 w2 _ h=>h) (Keeps.cons (fun v w1 w2 _ h=>h) (Keeps.cons (fun v w1 w2 _ h=>h) (Keeps.cons (fun v w1 w2 _ h=>h) (Keeps.cons (fun v w1 w2 _ h=>h) (Keeps.nil)))))))))))))))))))))
  refine start_ (n:=21) (S:=fun w'=>True) (ds:=[]) #[false,false,false,false,false,false,false,false,false,false,false,false,false,false,false,false,false,false,false,false,false] (by kernel_rfl) rfl rfl trivial (fun hHeld=>?_);refine with_tabW cend.tab1 cend.bits1 (fun HT_ HW_=>?_)
  refine phi_ 30 [0,1,2,3,4,5,6,7,8,9,10,11,12,13,14,15,16,17,18,19,20] (fun w'=>EndG g q a b c w w') (fun w1 w2=>Below w1.heap.size w1 w2) (fun j v w=>([OneBlk 90,(fun v _=>v= .string (strOfNums [90])),(fun v _=>v= .pointer (some ⟨g,q,none⟩)),(fun v _=>v= .pointer (some ⟨g,q,none⟩)),(fun v _=>v= .pointer (some ⟨g,q,none⟩)),(fun v _=>v= .int .u32 a),(fun v _=>StrOf 4 v),(fun v _=>StrOf 5 v),(fun v _=>v= .pointer (some ⟨g,q,none⟩)),(fun v _=>v= .pointer (some ⟨g,q,none⟩)),(fun v _=>v= .pointer (some ⟨g,q+1,none⟩)),(fun v _=>v= .int .u64 b),(fun v _=>StrOf 8 v),(fun v _=>StrOf 13 v),(fun v _=>v= .pointer (some ⟨g,q,none⟩)),(fun v _=>v= .pointer (some ⟨g,q,none⟩)),(fun v _=>v= .pointer (some ⟨g,q+2,none⟩)),(fun v _=>v= .int .u64 c),(fun v _=>StrOf 8 v),(fun v _=>StrOf 21 v),(fun v _=>StrOf 21 v)]:List (Value→World→Prop)).getD j (fun _ _=>True) v w) HT_.out HW_.out (by kernel_rfl) (by kernel_rfl) (by kernel_rfl) (Nat.le_refl 30) ⟨below_drewN (Below.refl _ _) 1,h0,h1,h2⟩ (fun j v w1 w2 h1 h2=>HKp j v w1 w2 h1 h2) ?_ ?_
  ·refine phi_cons ?_ ?_
   ·intro a' w' hG hoff hon
    refine ⟨_,rfl,fun K hK=>?_⟩
    refine value_ (w1:=w'.alloc (.cells #[.int .u8 90] 5)) (v:=.slice (some ⟨w'.heap.size,0,none⟩) 1 1) (by rfl) rfl ?_ ?_
    ·go_simp
     try rfl
    ·exact hK _ _ (⟨_,rfl,heap_alloc_new _ _⟩) (hG.below ((Below.refl _ _).alloc (Nat.le_refl _) _)) ((Below.refl _ _).alloc (Nat.le_refl _) _)
   refine phi_cons ?_ ?_
   ·intro a' w' hG hoff hon
    refine ⟨_,rfl,fun K hK=>?_⟩
    obtain ⟨v0,f0,p0⟩:=hon 0 (by kernel_rfl)
    have e4:=f0 4 rfl;clear f0;obtain ⟨k0,rfl,z0⟩:OneBlk 90 v0 w':=p0;refine value_ (w1:=w') (v:=.string (strOfNums [90])) (by rfl) rfl ?_ ?_
    ·have h0:=conv_blk z0
     go_simp
     try rfl
    ·exact hK _ _ rfl hG (Below.refl _ _)
   refine phi_cons ?_ ?_
   ·intro a' w' hG hoff hon
    refine ⟨_,rfl,fun K hK=>?_⟩
    have e0:a'.tmps[0]? =some (.pointer (some ⟨g,q,none⟩)):=(hoff 0 (by kernel_rfl)).trans rfl;refine value_ (w1:=w') (v:=.pointer (some ⟨g,q,none⟩)) (by rfl) rfl ?_ ?_
    ·go_simp
     try rfl
    ·exact hK _ _ rfl hG (Below.refl _ _)
   refine phi_cons ?_ ?_
   ·intro a' w' hG hoff hon
    refine ⟨_,rfl,fun K hK=>?_⟩
    obtain ⟨v2,f2,p2⟩:=hon 2 (by kernel_rfl)
    have e6:=f2 6 rfl;clear f2;obtain rfl:v2= .pointer (some ⟨g,q,none⟩):=p2;refine value_ (w1:=w') (v:=.pointer (some ⟨g,q,none⟩)) (by rfl) rfl ?_ ?_
    ·go_simp
     try rfl
    ·exact hK _ _ rfl hG (Below.refl _ _)
   refine phi_cons ?_ ?_
   ·intro a' w' hG hoff hon
    refine ⟨_,rfl,fun K hK=>?_⟩
    obtain ⟨v3,f3,p3⟩:=hon 3 (by kernel_rfl)
    have e7:=f3 7 rfl;clear f3;obtain rfl:v3= .pointer (some ⟨g,q,none⟩):=p3;refine value_ (w1:=w') (v:=.pointer (some ⟨g,q,none⟩)) (by rfl) rfl ?_ ?_
    ·go_simp
     try rfl
    ·exact hK _ _ rfl hG (Below.refl _ _)
   refine phi_cons ?_ ?_
   ·intro a' w' hG hoff hon
    refine ⟨_,rfl,fun K hK=>?_⟩
    obtain ⟨v4,f4,p4⟩:=hon 4 (by kernel_rfl)
    have e8:=f4 8 rfl;clear f4;obtain rfl:v4= .pointer (some ⟨g,q,none⟩):=p4;refine value_ (w1:=w') (v:=.int .u32 a) (by rfl) rfl ?_ ?_
    ·have h0:=hG.c0
     go_simp
     try rfl
    ·exact hK _ _ rfl hG (Below.refl _ _)
   refine phi_cons ?_ ?_
   ·intro a' w' hG hoff hon
    refine ⟨_,rfl,fun K hK=>?_⟩
    obtain ⟨v5,f5,p5⟩:=hon 5 (by kernel_rfl)
    have e9:=f5 9 rfl;clear f5;obtain rfl:v5= .int .u32 a:=p5;refine goes_ Tryz.func103 (by kernel_rfl) rfl #[.int .u32 a] (by rfl) rfl rfl (by simp [Act.eval,e9]) ?_;refine (four_calls _ _).mono ?_;rintro e w2 ⟨⟨s,rfl,hs⟩,hb⟩
    exact ⟨_,rfl,hK _ _ ⟨s,rfl,hs⟩ (hG.below hb) hb⟩
   refine phi_cons ?_ ?_
   ·intro a' w' hG hoff hon
    refine ⟨_,rfl,fun K hK=>?_⟩
    obtain ⟨v1,f1,p1⟩:=hon 1 (by kernel_rfl)
    have e5:=f1 5 rfl;clear f1;obtain rfl:v1= .string (strOfNums [90]):=p1;obtain ⟨v6,f6,p6⟩:=hon 6 (by kernel_rfl)
    have e10:=f6 10 rfl;clear f6;obtain ⟨s6,rfl,z6⟩:StrOf 4 v6:=p6;refine value_ (w1:=w') (v:=.string (strOfNums [90]++s6)) (by rfl) rfl ?_ ?_
    ·have hq:(strOfNums [90]).size=1:=str_size _
     go_simp
     try omega
    ·exact hK _ _ (⟨_,rfl,by rw [ByteArray.size_append,str_size];simp;omega⟩) hG (Below.refl _ _)
   refine phi_cons ?_ ?_
   ·intro a' w' hG hoff hon
    refine ⟨_,rfl,fun K hK=>?_⟩
    have e0:a'.tmps[0]? =some (.pointer (some ⟨g,q,none⟩)):=(hoff 0 (by kernel_rfl)).trans rfl;refine value_ (w1:=w') (v:=.pointer (some ⟨g,q,none⟩)) (by rfl) rfl ?_ ?_
    ·go_simp
     try rfl
    ·exact hK _ _ rfl hG (Below.refl _ _)
   refine phi_cons ?_ ?_
   ·intro a' w' hG hoff hon
    refine ⟨_,rfl,fun K hK=>?_⟩
    obtain ⟨v8,f8,p8⟩:=hon 8 (by kernel_rfl)
    have e12:=f8 12 rfl;clear f8;obtain rfl:v8= .pointer (some ⟨g,q,none⟩):=p8;refine value_ (w1:=w') (v:=.pointer (some ⟨g,q,none⟩)) (by rfl) rfl ?_ ?_
    ·go_simp
     try rfl
    ·exact hK _ _ rfl hG (Below.refl _ _)
   refine phi_cons ?_ ?_
   ·intro a' w' hG hoff hon
    refine ⟨_,rfl,fun K hK=>?_⟩
    obtain ⟨v9,f9,p9⟩:=hon 9 (by kernel_rfl)
    have e13:=f9 13 rfl;clear f9;obtain rfl:v9= .pointer (some ⟨g,q,none⟩):=p9;refine value_ (w1:=w') (v:=.pointer (some ⟨g,q+1,none⟩)) (by rfl) rfl ?_ ?_
    ·go_simp
     try rfl
    ·exact hK _ _ rfl hG (Below.refl _ _)
   refine phi_cons ?_ ?_
   ·intro a' w' hG hoff hon
    refine ⟨_,rfl,fun K hK=>?_⟩
    obtain ⟨v10,f10,p10⟩:=hon 10 (by kernel_rfl)
    have e14:=f10 14 rfl;clear f10;obtain rfl:v10= .pointer (some ⟨g,q+1,none⟩):=p10;refine value_ (w1:=w') (v:=.int .u64 b) (by rfl) rfl ?_ ?_
    ·have h0:=hG.c1
     go_simp
     try rfl
    ·exact hK _ _ rfl hG (Below.refl _ _)
   refine phi_cons ?_ ?_
   ·intro a' w' hG hoff hon
    refine ⟨_,rfl,fun K hK=>?_⟩
    obtain ⟨v11,f11,p11⟩:=hon 11 (by kernel_rfl)
    have e15:=f11 15 rfl;clear f11;obtain rfl:v11= .int .u64 b:=p11;refine goes_ Tryz.func104 (by kernel_rfl) rfl #[.int .u64 b] (by rfl) rfl rfl (by simp [Act.eval,e15]) ?_;refine (eight_calls _ _).mono ?_;rintro e w2 ⟨⟨s,rfl,hs⟩,hb⟩
    exact ⟨_,rfl,hK _ _ ⟨s,rfl,hs⟩ (hG.below hb) hb⟩
   refine phi_cons ?_ ?_
   ·intro a' w' hG hoff hon
    refine ⟨_,rfl,fun K hK=>?_⟩
    obtain ⟨v7,f7,p7⟩:=hon 7 (by kernel_rfl)
    have e11:=f7 11 rfl;clear f7;obtain ⟨s7,rfl,z7⟩:StrOf 5 v7:=p7;obtain ⟨v12,f12,p12⟩:=hon 12 (by kernel_rfl)
    have e16:=f12 16 rfl;clear f12;obtain ⟨s12,rfl,z12⟩:StrOf 8 v12:=p12;refine value_ (w1:=w') (v:=.string (s7++s12)) (by rfl) rfl ?_ ?_
    ·go_simp
     try rfl
    ·exact hK _ _ (⟨_,rfl,by rw [ByteArray.size_append];omega⟩) hG (Below.refl _ _)
   refine phi_cons ?_ ?_
   ·intro a' w' hG hoff hon
    refine ⟨_,rfl,fun K hK=>?_⟩
    have e0:a'.tmps[0]? =some (.pointer (some ⟨g,q,none⟩)):=(hoff 0 (by kernel_rfl)).trans rfl;refine value_ (w1:=w') (v:=.pointer (some ⟨g,q,none⟩)) (by rfl) rfl ?_ ?_
    ·go_simp
     try rfl
    ·exact hK _ _ rfl hG (Below.refl _ _)
   refine phi_cons ?_ ?_
   ·intro a' w' hG hoff hon
    refine ⟨_,rfl,fun K hK=>?_⟩
    obtain ⟨v14,f14,p14⟩:=hon 14 (by kernel_rfl)
    have e18:=f14 18 rfl;clear f14;obtain rfl:v14= .pointer (some ⟨g,q,none⟩):=p14;refine value_ (w1:=w') (v:=.pointer (some ⟨g,q,none⟩)) (by rfl) rfl ?_ ?_
    ·go_simp
     try rfl
    ·exact hK _ _ rfl hG (Below.refl _ _)
   refine phi_cons ?_ ?_
   ·intro a' w' hG hoff hon
    refine ⟨_,rfl,fun K hK=>?_⟩
    obtain ⟨v15,f15,p15⟩:=hon 15 (by kernel_rfl)
    have e19:=f15 19 rfl;clear f15;obtain rfl:v15= .pointer (some ⟨g,q,none⟩):=p15;refine value_ (w1:=w') (v:=.pointer (some ⟨g,q+2,none⟩)) (by rfl) rfl ?_ ?_
    ·go_simp
     try rfl
    ·exact hK _ _ rfl hG (Below.refl _ _)
   refine phi_cons ?_ ?_
   ·intro a' w' hG hoff hon
    refine ⟨_,rfl,fun K hK=>?_⟩
    obtain ⟨v16,f16,p16⟩:=hon 16 (by kernel_rfl)
    have e20:=f16 20 rfl;clear f16;obtain rfl:v16= .pointer (some ⟨g,q+2,none⟩):=p16;refine value_ (w1:=w') (v:=.int .u64 c) (by rfl) rfl ?_ ?_
    ·have h0:=hG.c2
     go_simp
     try rfl
    ·exact hK _ _ rfl hG (Below.refl _ _)
   refine phi_cons ?_ ?_
   ·intro a' w' hG hoff hon
    refine ⟨_,rfl,fun K hK=>?_⟩
    obtain ⟨v17,f17,p17⟩:=hon 17 (by kernel_rfl)
    have e21:=f17 21 rfl;clear f17;obtain rfl:v17= .int .u64 c:=p17;refine goes_ Tryz.func104 (by kernel_rfl) rfl #[.int .u64 c] (by rfl) rfl rfl (by simp [Act.eval,e21]) ?_;refine (eight_calls _ _).mono ?_;rintro e w2 ⟨⟨s,rfl,hs⟩,hb⟩
    exact ⟨_,rfl,hK _ _ ⟨s,rfl,hs⟩ (hG.below hb) hb⟩
   refine phi_cons ?_ ?_
   ·intro a' w' hG hoff hon
    refine ⟨_,rfl,fun K hK=>?_⟩
    obtain ⟨v13,f13,p13⟩:=hon 13 (by kernel_rfl)
    have e17:=f13 17 rfl;clear f13;obtain ⟨s13,rfl,z13⟩:StrOf 13 v13:=p13;obtain ⟨v18,f18,p18⟩:=hon 18 (by kernel_rfl)
    have e22:=f18 22 rfl;clear f18;obtain ⟨s18,rfl,z18⟩:StrOf 8 v18:=p18;refine value_ (w1:=w') (v:=.string (s13++s18)) (by rfl) rfl ?_ ?_
    ·go_simp
     try rfl
    ·exact hK _ _ (⟨_,rfl,by rw [ByteArray.size_append];omega⟩) hG (Below.refl _ _)
   refine phi_cons ?_ ?_
   ·intro a' w' hG hoff hon
    refine ⟨_,rfl,fun K hK=>?_⟩
    obtain ⟨v19,f19,p19⟩:=hon 19 (by kernel_rfl)
    have e23:=f19 23 rfl;clear f19;obtain ⟨s19,rfl,z19⟩:StrOf 21 v19:=p19;refine value_ (w1:=w') (v:=.string s19) (by rfl) rfl ?_ ?_
    ·go_simp
     try rfl
    ·exact hK _ _ (⟨_,rfl,z19⟩) hG (Below.refl _ _)
   exact phi_nil
  ·intro vals w' hG hF
   have hl0:=hF 20 (by decide)
   obtain ⟨s,hlast,hs⟩:StrOf 21 (vals 20):=hl0;simp only [Phi.putAll,Phi.dstOf,List.getElem?_toArray,List.getElem?_cons_succ,List.getElem?_cons_zero,Option.bind_some,Act.put,List.setIfInBounds_toArray,List.set_cons_zero,List.set_cons_succ,hlast]
   have HB:=hG.bel;clear hG hF hlast;go_wp2_with fail;go_meet;exact ⟨⟨s,rfl,hs⟩,HB⟩
 case rest=>
  obtain ⟨⟨T,rfl,hT⟩,hb⟩:=hcut;have HB:=Lib.hid hb;clear hb;go_wp2_with fail;refine (crc_of wc.heap.size T (wc.alloc (.cells #[.string T] 9)) (by rw [cell_of (heap_alloc_new _ _)];rfl) (by omega)).mono ?_;rintro e w2 ⟨⟨y,rfl⟩,hb2⟩
  have HB2:=Lib.hid ((HB.out.alloc HB.out.size _).trans (Below.mono hb2 (by have:=HB.out.size;simp;omega)))
  clear hb2;go_wp2_with fail;refine (four_calls _ _).mono ?_;rintro e w3 ⟨⟨s3,rfl,h3⟩,hb3⟩
  have hTs:(T++s3).size=25:=by rw [ByteArray.size_append];omega
  have HB3:=Lib.hid (HB2.out.trans (Below.mono hb3 HB2.out.size))
  clear hb3;go_wp2_with fail;go_ret;exact ⟨⟨_,rfl,hTs⟩,HB3.out⟩
end Dcd
end Go.Proofs.YtooiooledeblmaaGreat
