/- The table of EBCDIC's bytes, as it is made. UTF-EBCDIC's inner encoder: a scalar's bytes. How the other encoders are fed. A text turned by the table; the encoder of UTF-EBCDIC, made and fed. The encoder of UTF-EBCDIC, made and fed. -/
import Derived.Test.YtooiooledeblmaaGreatZ5
import Derived.Laws.Rows
import Derived.Laws.Tables
import Derived.Great.BuildSlice
import Derived.Deep.MidRow
import Derived.Lib.EndianBits
import Derived.Laws.BitsAllLaws
import Derived.Lib.ConvBytes
set_option linter.unusedVariables false
set_option linter.unusedSimpArgs false
namespace Go.Proofs.YtooiooledeblmaaGreat
namespace Out
open Go.RowKit Win Stp Lst
def knownL:List Int:=[0,1,2,3,55,45,46,47,22,5,21,11,12,13,14,15,16,17,18,19,60,61,50,38,24,25,63,39,28,29,30,31,64,90,127,123,91,108,80,125,77,93,92,78,107,96,75,97,240,241,242,243,244,245,246,247,248,249,122,94,76,126,110,111,124,193,194,195,196,197,198,199,200,201,209,210,211,212,213,214,215,216,217,226,227,228,229,230,231,232,233,173,224,189,95,109,121,129,130,131,132,133,134,135,136,137,145,146,147,148,149,150,151,152,153,162,163,164,165,166,167,168,169,192,79,208,161,7,32,33,34,35,36,37,6,23,40,41,42,43,44,9,10,27,48,49,26,51,52,53,54,8,56,57,58,59,4,20,62,255]
theorem wpList_value {P:Program} {ops:Array Oper} {rest:List Oper} {o:Oper} {a:Act} {w:World} {Q:Exit→Act→World→Prop} (hg:o.guard=none) (v:Value) (hr:(execOp a.eval o).run P w= .ok (.value v) w) (h:wpList P ops Q rest (a.put o.dst v) w):wpList P ops Q (o::rest) a w:=by
 refine wpList_plain hg fun K hK=>?_
 unfold Oper.wp;rw [hr]
 exact hK _ _ h
theorem wpList_value2 {P:Program} {ops:Array Oper} {rest:List Oper} {o:Oper} {a:Act} {w:World} {Q:Exit→Act→World→Prop} (hg:o.guard=none) (v:Value) (w':World) (hr:(execOp a.eval o).run P w= .ok (.value v) w') (h:wpList P ops Q rest (a.put o.dst v) w'):wpList P ops Q (o::rest) a w:=by
 refine wpList_plain hg fun K hK=>?_
 unfold Oper.wp;rw [hr]
 exact hK _ _ h
def KnownPost (w:World) (e:Ending) (w':World):Prop:=e= .returned (.agg (u8s knownL).toArray)∧Below w.heap.size w w'
theorem below_setRow {B g:Nat} {w w':World} (h:Below B w w') (hg:B≤g) (c:Array Value):Below B w (w'.setRow g c):=by
 refine ⟨h.os,h.tape,h.output,?_,fun i hi=>?_⟩
 ·have:=h.size;simpa [World.setRow] using this
 ·rw [←h.block i hi]
  simp only [World.setRow,Array.getElem?_modify]
  split
  ·omega
  ·rfl
theorem setRow_same {w:World} {g:Nat} {c c':Array Value} {t:TypeId} {fz:Nat×Nat} (h:w.heap[g]? =some (.cells c t fz)):(w.setRow g c').heap[g]? =some (.cells c' t fz):=by
 simp only [World.setRow,Array.getElem?_modify,h]
 simp
set_option maxRecDepth 100000 in
set_option maxHeartbeats 8000000 in
theorem known_calls (w:World):Calls Tryz.prog 117 #[] w (KnownPost w):=by
 go_enter Tryz.func117,Tryz.ntmps117;go_upto_region 1 with fail;refine wp_region_list ?_;refine wpList_value rfl (.agg (u8s knownL).toArray) (by kernel_rfl) ?_;obtain ⟨cs,hcs⟩:∃cs,cs=(u8s knownL).toArray:=⟨_,rfl⟩
 have h160:cs.size=160:=by rw [hcs];rfl
 have hone:cs.all (·.oneCell')=true:=by rw [hcs];decide +kernel
 rw [←hcs]
 have HC:=Lib.hid hcs;have hi:=Lib.hid (show (Tryz.prog.info? 224).map (·.size)=some cs.size by rw [h160];kernel_rfl)
 clear hcs;refine wpList_store_row rfl 224 _ _ rfl w.heap.size cs rfl rfl 224 _ (heap_alloc_new _ _) hi.out (by rw [h160];rfl) hone ?_;refine wpList_nil ?_;go_wp2_with fail;refine bodyPost_ret (v:=.agg cs) (results_cell_row rfl _ _ w.heap.size 224 cs (0,0) _ rfl (setRow_same (heap_alloc_new _ _)) Tryz.underlying224 rfl hi.out) rfl ⟨by rw [HC.out],below_setRow ((Below.refl _ _).alloc (Nat.le_refl _) _) (Nat.le_refl _) _⟩
def zerosL:List Int:=List.replicate 512 0
def bls (xs:List Bool):List Value:=xs.map fun x=> .bool x
set_option maxRecDepth 100000 in
def takenL:List Bool:=[true,true,true,true,true,true,true,true,true,true,true,true,true,true,true,true,true,true,true,true,true,true,true,true,true,true,true,true,true,true,true,true,true,true,true,true,true,true,true,true,true,true,true,true,true,true,true,true,true,true,true,true,true,true,true,true,true,true,true,true,true,true,true,true,true,false,false,false,false,false,false,false,false,false,false,true,true,true,true,true,true,false,false,false,false,false,false,false,false,false,true,true,true,true,true,true,true,true,false,false,false,false,false,false,false,false,false,true,true,true,true,true,false,false,false,false,false,false,false,false,false,true,true,true,true,true,true,true,false,true,true,true,true,true,true,true,true,true,false,false,false,false,false,false,false,true,true,true,true,true,true,true,true,true,false,false,false,false,false,false,false,true,true,true,true,true,true,true,true,true,false,false,false,true,false,false,false,false,false,false,false,false,false,false,false,false,false,false,false,true,false,false,true,true,true,true,true,true,true,true,true,true,false,false,false,false,false,false,true,true,true,true,true,true,true,true,true,true,false,false,false,false,false,false,true,false,true,true,true,true,true,true,true,true,false,false,false,false,false,false,true,true,true,true,true,true,true,true,true,true,false,false,false,false,false,true]
set_option maxRecDepth 100000 in
def toL:List Int:=[0,1,2,3,55,45,46,47,22,5,21,11,12,13,14,15,16,17,18,19,60,61,50,38,24,25,63,39,28,29,30,31,64,90,127,123,91,108,80,125,77,93,92,78,107,96,75,97,240,241,242,243,244,245,246,247,248,249,122,94,76,126,110,111,124,193,194,195,196,197,198,199,200,201,209,210,211,212,213,214,215,216,217,226,227,228,229,230,231,232,233,173,224,189,95,109,121,129,130,131,132,133,134,135,136,137,145,146,147,148,149,150,151,152,153,162,163,164,165,166,167,168,169,192,79,208,161,7,32,33,34,35,36,37,6,23,40,41,42,43,44,9,10,27,48,49,26,51,52,53,54,8,56,57,58,59,4,20,62,255,65,66,67,68,69,70,71,72,73,74,81,82,83,84,85,86,87,88,89,98,99,100,101,102,103,104,105,106,112,113,114,115,116,117,118,119,120,128,138,139,140,141,142,143,144,154,155,156,157,158,159,160,170,171,172,174,175,176,177,178,179,180,181,182,183,184,185,186,187,188,190,191,202,203,204,205,206,207,218,219,220,221,222,223,225,234,235,236,237,238,239,250,251,252,253,254]
set_option maxRecDepth 100000 in
def fromL:List Int:=[0,1,2,3,156,9,134,127,151,141,142,11,12,13,14,15,16,17,18,19,157,10,8,135,24,25,146,143,28,29,30,31,128,129,130,131,132,133,23,27,136,137,138,139,140,5,6,7,144,145,22,147,148,149,150,4,152,153,154,155,20,21,158,26,32,160,161,162,163,164,165,166,167,168,169,46,60,40,43,124,38,170,171,172,173,174,175,176,177,178,33,36,42,41,59,94,45,47,179,180,181,182,183,184,185,186,187,44,37,95,62,63,188,189,190,191,192,193,194,195,196,96,58,35,64,39,61,34,197,97,98,99,100,101,102,103,104,105,198,199,200,201,202,203,204,106,107,108,109,110,111,112,113,114,205,206,207,208,209,210,211,126,115,116,117,118,119,120,121,122,212,213,214,91,215,216,217,218,219,220,221,222,223,224,225,226,227,228,229,93,230,231,123,65,66,67,68,69,70,71,72,73,232,233,234,235,236,237,125,74,75,76,77,78,79,80,81,82,238,239,240,241,242,243,92,244,83,84,85,86,87,88,89,90,245,246,247,248,249,250,48,49,50,51,52,53,54,55,56,57,251,252,253,254,255,159]
def T1 (k:Nat):List Int:=knownL.take k++List.replicate (256-k) 0
def K1:Nat→List Bool
 |0=>List.replicate 256 false
 |k+1=>(K1 k).set (knownL.getD k 0).toNat true
def A2:Nat→Nat
 |0=>160
 |b+1=>if takenL.getD b false=true then A2 b else A2 b+1
def T2:Nat→List Int
 |0=>T1 160
 |b+1=>if takenL.getD b false=true then T2 b else (T2 b).set (A2 b) (b:Int)
def F3:Nat→List Int
 |0=>List.replicate 256 0
 |i+1=>(F3 i).set (toL.getD i 0).toNat (i:Int)
set_option maxRecDepth 100000 in
theorem k1_all:K1 160=takenL:=by decide +kernel
set_option maxRecDepth 100000 in
theorem t2_all:T2 256=toL:=by decide +kernel
set_option maxRecDepth 100000 in
theorem f3_all:F3 256=fromL:=by decide +kernel
set_option maxRecDepth 100000 in
theorem a2_lt:∀b:Fin 256,takenL.getD b.val false=false→A2 b.val<256:=by decide +kernel
set_option maxRecDepth 100000 in
theorem known_rng:∀k:Fin 160,0≤knownL.getD k.val 0∧knownL.getD k.val 0≤255:=by decide +kernel
set_option maxRecDepth 100000 in
theorem to_rng:∀k:Fin 256,0≤toL.getD k.val 0∧toL.getD k.val 0≤255:=by decide +kernel
theorem t1_len (k:Nat) (h:k≤160):(T1 k).length=256:=by
 unfold T1;rw [List.length_append,List.length_take,List.length_replicate,show knownL.length=160 from rfl]
 omega
theorem t1_set (k:Nat) (h:k<160):(T1 k).set k (knownL.getD k 0)=T1 (k+1):=by
 have h160:knownL.length=160:=rfl;have ht:knownL.take (k+1)=knownL.take k++[knownL.getD k 0]:=by
  rw [List.take_succ_eq_append_getElem (by omega),List.getD_eq_getElem?_getD,List.getElem?_eq_getElem (by omega)];rfl
 have hl:(knownL.take k).length=k:=by rw [List.length_take];omega
 unfold T1;rw [ht,show 256-k=(256-(k+1))+1 by omega,List.replicate_succ,List.set_append,hl,if_neg (Nat.lt_irrefl k),Nat.sub_self,List.set_cons_zero,List.append_assoc]
 rfl
theorem t2_len:∀b,(T2 b).length=256
 |0=>t1_len 160 (Nat.le_refl _)
 |b+1=>by
  unfold T2
  split
  ·exact t2_len b
  ·rw [List.length_set];exact t2_len b
theorem k1_len:∀k,(K1 k).length=256
 |0=>List.length_replicate
 |k+1=>by unfold K1;rw [List.length_set];exact k1_len k
theorem f3_len:∀k,(F3 k).length=256
 |0=>List.length_replicate
 |k+1=>by unfold F3;rw [List.length_set];exact f3_len k
def tabCells (a b:List Int):Array Value:=(u8s (a++b)).toArray
def tkCells (a:List Bool):Array Value:=(bls a).toArray
def TabAt (w:World) (g:Nat):Prop:=w.heap[g]? =some (.cells (tabCells toL fromL) 222 (0,0))
theorem tab_set1 {a b:List Int} {k:Nat} {x:Int} (ha:a.length=256) (hk:k<256):(tabCells a b).setIfInBounds k (.int .u8 x)=tabCells (a.set k x) b:=by
 unfold tabCells u8s;apply Array.toList_inj.1;simp only [Array.toList_setIfInBounds,List.map_append,List.map_set]
 rw [List.set_append,if_pos (by rw [List.length_map];omega)]
theorem tab_set2 {a b:List Int} {k:Nat} {x:Int} (ha:a.length=256):(tabCells a b).setIfInBounds (256+k) (.int .u8 x)=tabCells a (b.set k x):=by
 unfold tabCells u8s;apply Array.toList_inj.1;simp only [Array.toList_setIfInBounds,List.map_append,List.map_set]
 rw [List.set_append,if_neg (by rw [List.length_map];omega),List.length_map,ha,Nat.add_sub_cancel_left]
theorem tk_set {a:List Bool} {k:Nat}:(tkCells a).setIfInBounds k (.bool true)=tkCells (a.set k true):=by
 unfold tkCells bls;apply Array.toList_inj.1;simp [List.map_set]
theorem tab_cell1 {w:World} {g k:Nat} {a b:List Int} (h:w.heap[g]? =some (.cells (tabCells a b) 222 (0,0))) (ha:a.length=256) (hk:k<256):w.cell? ⟨g,k,none⟩=some (.int .u8 (a.getD k 0)):=by
 rw [cell_of h]
 simp [tabCells,u8s,List.getElem?_append,ha,hk,List.getD_eq_getElem?_getD]
theorem tab_cell2 {w:World} {g k:Nat} {a b:List Int} (h:w.heap[g]? =some (.cells (tabCells a b) 222 (0,0))) (ha:a.length=256) (hb:b.length=256) (hk:k<256):w.cell? ⟨g,256+k,none⟩=some (.int .u8 (b.getD k 0)):=by
 rw [cell_of h]
 simp [tabCells,u8s,List.getElem?_append,ha,hb,hk,List.getD_eq_getElem?_getD]
theorem tk_cell {w:World} {g k:Nat} {a:List Bool} (h:w.heap[g]? =some (.cells (tkCells a) 223 (0,0))) (ha:a.length=256) (hk:k<256):w.cell? ⟨g,k,none⟩=some (.bool (a.getD k false)):=by
 rw [cell_of h]
 simp [tkCells,bls,ha,hk,List.getD_eq_getElem?_getD]
theorem run_index_arr {P:Program} {w:World} {t e:TypeId} {n:Nat} {cs:Array Value} {k:Nat} {v:Value} (h:P.underlying t=some (.array n e)) (hs:(sizeOf e).run P w= .ok 1 w) (ha:(isAgg e).run P w= .ok false w) (ho:k<n) (hv:cs[k]? =some v):
  (Instr.index t (.agg cs) (.int .i64 (k:Int))).run P w= .ok v w:=by
 have hn:(0≤(k:Int)∧(k:Int)<(n:Int)):=by omega
 simp [Instr.index,run_underlying h,asIntOf,hn,go_sem,ho,hs,ha,Result.andThen,hv]
def Rel1 (w:World) (g kb:Nat) (i:Value) (wr:World):Prop:=∃k:Nat,k≤160∧i= .int .i64 k∧wr.heap[g]? =some (.cells (tabCells (T1 k) (List.replicate 256 0)) 222 (0,0))∧wr.heap[kb]? =some (.cells (tkCells (K1 k)) 223 (0,0))∧Below w.heap.size w wr
def Rel2 (w:World) (g kb:Nat) (i at_:Value) (wr:World):Prop:=∃b:Nat,b≤256∧i= .int .i64 b∧at_= .int .i64 (A2 b)∧wr.heap[g]? =some (.cells (tabCells (T2 b) (List.replicate 256 0)) 222 (0,0))∧wr.heap[kb]? =some (.cells (tkCells takenL) 223 (0,0))∧Below w.heap.size w wr
def Rel3 (w:World) (g:Nat) (i:Value) (wr:World):Prop:=∃k:Nat,k≤256∧i= .int .i64 k∧wr.heap[g]? =some (.cells (tabCells toL (F3 k)) 222 (0,0))∧Below w.heap.size w wr
set_option maxRecDepth 100000 in
set_option maxHeartbeats 8000000 in
theorem perm_new (w:World):Calls Tryz.prog 106 #[] w fun e w'=>e= .returned (.pointer (some ⟨w.heap.size,0,none⟩))∧TabAt w' w.heap.size∧Below w.heap.size w w':=by
 go_enter Tryz.func106,Tryz.ntmps106;go_upto_region 1 with fail;refine wp_region_list ?_;refine wpList_value rfl (.agg (u8s zerosL).toArray) (by kernel_rfl) ?_;refine wpList_value2 rfl (.pointer (some ⟨w.heap.size,0,none⟩)) (w.alloc (.cells (u8s zerosL).toArray 222)) (by kernel_rfl) ?_;obtain ⟨w1,hw1⟩:∃w1,w1=w.alloc (.cells (u8s zerosL).toArray 222):=⟨_,rfl⟩
 obtain ⟨g,hg⟩:∃g,g=w.heap.size:=⟨_,rfl⟩
 have ht1:=Lib.hid (show w1.heap[g]? =some (.cells (tabCells (T1 0) (List.replicate 256 0)) 222 (0,0)) by rw [hw1,hg];exact heap_alloc_new _ _)
 have HB1:=Lib.hid (show Below w.heap.size w w1 by rw [hw1];exact (Below.refl _ _).alloc (Nat.le_refl _) _)
 rw [←hw1,←hg]
 have HG:=Lib.hid (show w.heap.size=g∧g<w1.heap.size from ⟨hg.symm,by rw [hw1,hg];simp⟩)
 clear hw1 hg;go_upto_region 3 with fail;obtain ⟨kb,hkb⟩:∃k,k=w1.heap.size:=⟨_,rfl⟩
 obtain ⟨w2,hw2⟩:∃w2,w2=w1.alloc (.cells Tryz.zeroCells223 223):=⟨_,rfl⟩
 have HT2:=Lib.hid (show w2.heap[g]? =some (.cells (tabCells (T1 0) (List.replicate 256 0)) 222 (0,0)) by rw [hw2,Below.heap_alloc _ _ _ HG.out.2];exact ht1.out)
 have HK2:=Lib.hid (show w2.heap[kb]? =some (.cells (tkCells (K1 0)) 223 (0,0)) by rw [hw2,hkb];exact heap_alloc_new _ _)
 have HB2:=Lib.hid (show Below w.heap.size w w2 by rw [hw2];exact HB1.out.alloc HB1.out.size _)
 have HGK:=Lib.hid (show w.heap.size=g∧g<kb∧kb<w2.heap.size by rw [hw2];have:=HG.out;simp;omega)
 rw [←hw2,←hkb]
 clear hw2 hkb ht1 HB1 HG;obtain ⟨cs,hcs⟩:∃cs,cs=(u8s knownL).toArray:=⟨_,rfl⟩
 have h160:cs.size=160:=by rw [hcs];rfl
 have hone:cs.all (·.oneCell')=true:=by rw [hcs];decide +kernel
 have hi:=Lib.hid (show (Tryz.prog.info? 224).map (·.size)=some cs.size by rw [h160];kernel_rfl)
 have hget:∀k,k<160→cs[k]? =some (.int .u8 (knownL.getD k 0)):=fun k hk=>by
  have h160:knownL.length=160:=rfl;rw [hcs]
  simp [u8s,List.getD_eq_getElem?_getD,h160,hk]
 have hkc:∀w,Calls Tryz.prog 117 #[] w fun e w'=>e= .returned (.agg cs)∧Below w.heap.size w w':=fun w=>by rw [hcs];exact known_calls w
 have HGet:=Lib.hid hget;have HKC:=Lib.hid hkc;have HOne:=Lib.hid (And.intro h160 hone)
 clear hcs h160 hone hget hkc;go_wp2_with fail;refine (HKC.out _).mono ?_;rintro e w3 ⟨rfl,hb3⟩
 have HT3:=Lib.hid ((hb3.block g (by have:=HGK.out;omega)).trans HT2.out)
 have HK3:=Lib.hid ((hb3.block kb (by have:=HGK.out;omega)).trans HK2.out)
 have HB3:=Lib.hid (HB2.out.trans (Below.mono hb3 HB2.out.size))
 have HS3:=Lib.hid (show kb<w3.heap.size by have:=hb3.size;have:=HGK.out;omega)
 clear hb3;obtain ⟨w4,hw4⟩:∃w4,w4=(w3.alloc (.cells Tryz.zeroCells224 224)).setRow w3.heap.size cs:=⟨_,rfl⟩
 have hr4:∀i,i<w3.heap.size→w4.heap[i]? =w3.heap[i]? :=fun i hi=>by
  rw [hw4]
  have:=(below_setRow ((Below.refl w3.heap.size w3).alloc (Nat.le_refl _) (.cells Tryz.zeroCells224 224)) (Nat.le_refl _) cs).block i hi;exact this
 have HF4:=Lib.hid (show w4.heap[w3.heap.size]? =some (.cells cs 224 (0,0)) by rw [hw4];exact setRow_same (heap_alloc_new _ _))
 have HT4:=Lib.hid ((hr4 g (by have:=HGK.out;have:=HS3.out;omega)).trans HT3.out)
 have HK4:=Lib.hid ((hr4 kb HS3.out).trans HK3.out)
 have HB4:=Lib.hid (show Below w.heap.size w w4 by rw [hw4];exact below_setRow (HB3.out.alloc HB3.out.size _) HB3.out.size _)
 have HU:Hid (Tryz.prog.underlying 224=some (.array 160 5)):=Lib.hid Tryz.underlying224;clear hr4;go_wp2_with (first|(refine wpList_store_row rfl 224 _ _ rfl w3.heap.size cs rfl rfl 224 _ (heap_alloc_new _ _) hi.out (by rw [HOne.out.1];rfl) HOne.out.2 ?_;rw [←hw4];clear hw4)|(refine wpList_load_row rfl 224 (.tmp 3) rfl w3.heap.size rfl 224 cs (0,0) _ HF4.out Tryz.underlying224 rfl hi.out ?_))
 go_loopw [14] (fun i wr=>Rel1 w g kb i wr) (fun i _=>160-(intOf i).toNat)
 case atStart=>exact ⟨0,Nat.zero_le _,rfl,HT4.out,HK4.out,HB4.out⟩
 case round=>
  obtain ⟨k,hk,rfl,ht,hkk,hb⟩:=hrel;have HT:=Lib.hid ht;have HK:=Lib.hid hkk;have HB:=Lib.hid hb;clear ht hkk hb
  by_cases hlt:k<160
  ·have hix:=fun w=>run_index_arr (P:=Tryz.prog) (w:=w) HU.out (Tryz.sizeOf5 w) (Tryz.isAgg5 w) hlt (HGet.out k hlt)
   have hkr:=known_rng ⟨k,hlt⟩
   simp only at hkr;have hs1:=t1_set k hlt;have hk1:K1 (k+1)=(K1 k).set (knownL.getD k 0).toNat true:=rfl;have hl1:=t1_len k hk;obtain ⟨x,hx⟩:∃x,x=knownL.getD k 0:=⟨_,rfl⟩
   rw [←hx] at hix hkr hs1 hk1;obtain ⟨x0,x1⟩:=hkr;have hc1:=tab_cell1 (k:=k) HT.out hl1 (by omega)
   have hf1:=frozen_of HT.out;have hset:(wr.setCell ⟨g,k,none⟩ (.int .u8 x)).heap[g]? =some (.cells (tabCells (T1 (k+1)) (List.replicate 256 0)) 222 (0,0)):=by
    rw [heap_setCell_same wr _ _ _ _ _ HT.out,tab_set1 hl1 (by omega),hs1]
   have hc2:=tk_cell (k:=x.toNat) HK.out (k1_len k) (by omega)
   have hf2:=frozen_of HK.out;have HNe:=Lib.hid (show w.heap.size=g∧g<kb∧kb<w2.heap.size from HGK.out)
   have hk2:(wr.setCell ⟨g,k,none⟩ (.int .u8 x)).heap[kb]? =some (.cells (tkCells (K1 k)) 223 (0,0)):=(Below.heap_setCell _ _ _ _ (by have:=HGK.out;show kb≠g;omega)).trans HK.out;have hset2:((wr.setCell ⟨g,k,none⟩ (.int .u8 x)).setCell ⟨kb,x.toNat,none⟩ (.bool true)).heap[kb]? =some (.cells (tkCells (K1 (k+1))) 223 (0,0)):=by
    rw [heap_setCell_same _ _ _ _ _ _ hk2,tk_set,hk1]
   have HS2:=Lib.hid hset2;have HS1:=Lib.hid ((Below.heap_setCell (wr.setCell ⟨g,k,none⟩ (.int .u8 x)) ⟨kb,x.toNat,none⟩ (.bool true) g (by have:=HGK.out;show g≠kb;omega)).trans hset)
   have hf2':=frozen_of hk2;have hc2':=tk_cell (k:=x.toNat) hk2 (k1_len k) (by omega)
   clear hset hset2 hs1 hk1 hx hk2 hc2 hf2;go_wp2_with fail;go_roundw
   case rel=>exact ⟨k+1,hlt,by go_num,HS1.out,HS2.out,(HB.out.setCell (by have:=HGK.out;show w.heap.size≤g;omega) _).setCell (by have:=HGK.out;show w.heap.size≤kb;omega) _⟩
   case measure=>simp [intOf];omega
  ·obtain rfl:k=160:=by omega
   have HK9:=Lib.hid (show wr.heap[kb]? =some (.cells (tkCells takenL) 223 (0,0)) by have:=HK.out;rw [k1_all] at this;exact this)
   clear HK;go_wp2_with fail;go_loopw [27,6] (fun i at_ wr=>Rel2 w g kb i at_ wr) (fun i _ _=>256-(intOf i).toNat)
   case atStart=>exact ⟨0,Nat.zero_le _,rfl,rfl,HT.out,HK9.out,HB.out⟩
   case round=>
    obtain ⟨b,hbb,rfl,rfl,ht,hkk,hb⟩:=hrel;have HT:=Lib.hid ht;have HK:=Lib.hid hkk;have HB:=Lib.hid hb;have hf0:=frozen_of hkk;clear ht hkk hb HK9
    by_cases hlt:b<256
    ·have hc:=tk_cell (k:=b) HK.out rfl hlt
     have hA:A2 (b+1)=if takenL.getD b false=true then A2 b else A2 b+1:=rfl
     have hT:T2 (b+1)=if takenL.getD b false=true then T2 b else (T2 b).set (A2 b) (b:Int):=rfl
     have hal:=a2_lt ⟨b,hlt⟩
     simp only at hal
     cases hq:takenL.getD b false with
     |true=>
      rw [hq,if_pos rfl] at hA hT;rw [hq] at hc;have HA:=Lib.hid (And.intro hA hT)
      clear hA hT hal hq;go_wp2_with fail;go_roundw
      case rel=>exact ⟨b+1,hlt,by go_num,by rw [HA.out.1],by rw [HA.out.2];exact HT.out,HK.out,HB.out⟩
      case measure=>simp [intOf];omega
     |false=>
      rw [hq,if_neg (by decide)] at hA hT;rw [hq] at hc;have ha:=hal hq;have hl2:=t2_len b;have hc1:=tab_cell1 (k:=A2 b) HT.out hl2 ha;have hf1:=frozen_of HT.out;have hset:(wr.setCell ⟨g,A2 b,none⟩ (.int .u8 (b:Int))).heap[g]? =some (.cells (tabCells (T2 (b+1)) (List.replicate 256 0)) 222 (0,0)):=by
       rw [heap_setCell_same wr _ _ _ _ _ HT.out,tab_set1 hl2 ha,hT]
      have HS:=Lib.hid hset;have HK2':=Lib.hid ((Below.heap_setCell wr ⟨g,A2 b,none⟩ (.int .u8 (b:Int)) kb (by have:=HGK.out;show kb≠g;omega)).trans HK.out)
      have HA:=Lib.hid hA;have w8:IntKind.u8.wrap (b:Int)=(b:Int):=by rw [IntKind.wrap_u8];omega
      clear hA hT hal hq hl2 hset;generalize A2 b=z at*;go_wp2_with fail;go_roundw
      case rel=>exact ⟨b+1,hlt,by go_num,by rw [HA.out];go_num,HS.out,HK2'.out,HB.out.setCell (by have:=HGK.out;show w.heap.size≤g;omega) _⟩
      case measure=>simp [intOf];omega
    ·obtain rfl:b=256:=by omega
     have HT9:=Lib.hid (show wr.heap[g]? =some (.cells (tabCells toL (List.replicate 256 0)) 222 (0,0)) by have:=HT.out;rw [t2_all] at this;exact this)
     have hra:wr.rangeAt g 0 (u8s toL):=by
      have:=World.rangeAt_of_block HT9.out 0 256;have e:((tabCells toL (List.replicate 256 0)).extract 0 (0+256)).toList=u8s toL:=by kernel_rfl
      rw [e] at this;exact this
     have HRa:=Lib.hid hra;have HU2:Hid (Tryz.prog.underlying 220=some (.array 256 5)):=Lib.hid Tryz.underlying220;have hi2:=Lib.hid (show (Tryz.prog.info? 220).map (·.size)=some (u8s toL).length by kernel_rfl)
     obtain ⟨ts,hts⟩:∃ts,ts=(u8s toL).toArray:=⟨_,rfl⟩
     have hget2:∀k,k<256→ts[k]? =some (.int .u8 (toL.getD k 0)):=fun k hk=>by
      have h256:toL.length=256:=rfl;rw [hts]
      simp [u8s,List.getD_eq_getElem?_getD,h256,hk]
     have HG2:=Lib.hid hget2;clear hra HT hf0 hget2;go_wp2_with (refine wpList_load_mid rfl 220 _ rfl g 0 rfl (u8s toL) _ HRa.out HU2.out rfl hi2.out ?_;rw [←hts];clear hts)
     go_loopw [48] (fun i wr=>Rel3 w g i wr) (fun i _=>256-(intOf i).toNat)
     case atStart=>exact ⟨0,Nat.zero_le _,rfl,HT9.out,HB.out⟩
     case round=>
      obtain ⟨k,hk,rfl,ht,hb⟩:=hrel;have HT:=Lib.hid ht;have HB:=Lib.hid hb;clear ht hb
      by_cases hlt:k<256
      ·have hix:=fun w=>run_index_arr (P:=Tryz.prog) (w:=w) HU2.out (Tryz.sizeOf5 w) (Tryz.isAgg5 w) hlt (HG2.out k hlt)
       have hkr:=to_rng ⟨k,hlt⟩
       simp only at hkr;have hF:F3 (k+1)=(F3 k).set (toL.getD k 0).toNat (k:Int):=rfl;obtain ⟨x,hx⟩:∃x,x=toL.getD k 0:=⟨_,rfl⟩
       rw [←hx] at hix hkr hF;obtain ⟨x0,x1⟩:=hkr;have hc1:=tab_cell2 (k:=x.toNat) HT.out rfl (f3_len k) (by omega)
       have hf1:=frozen_of HT.out;have hset:(wr.setCell ⟨g,256+x.toNat,none⟩ (.int .u8 (k:Int))).heap[g]? =some (.cells (tabCells toL (F3 (k+1))) 222 (0,0)):=by
        rw [heap_setCell_same wr _ _ _ _ _ HT.out,tab_set2 rfl,hF]
       have HS:=Lib.hid hset;have w8:IntKind.u8.wrap (k:Int)=(k:Int):=by rw [IntKind.wrap_u8];omega
       clear hF hset hx;go_wp2_with fail;go_roundw
       case rel=>exact ⟨k+1,hlt,by go_num,HS.out,HB.out.setCell (by have:=HGK.out;show w.heap.size≤g;omega) _⟩
       case measure=>simp [intOf];omega
      ·obtain rfl:k=256:=by omega
       go_wp2_with fail;go_ret;refine ⟨by rw [HGK.out.1];rfl,?_,HB.out⟩
       have:=HT.out;rw [f3_all] at this;rw [HGK.out.1]
       exact this
end Out
namespace Out
open Go.RowKit Win Stp Lst
def md (c:Int):Nat→List Int
 |0=>[]
 |j+1=>(160+c/32^j%32)::md c j
theorem md_length (c:Int):∀j,(md c j).length=j
 |0=>rfl
 |j+1=>by unfold md;rw [List.length_cons,md_length c j]
def mT (c:Int):Nat:=if c<1024 then 1 else if c<16384 then 2 else if c<262144 then 3 else 4
def mL (c:Int):Int:=if c<1024 then 192 else if c<16384 then 224 else if c<262144 then 240 else 248
def mod8B (c:Int):List Int:=if c<160 then [c] else (mL c+c/32^mT c)::md c (mT c)
theorem pow32 (x:Int) (j:Nat):x/32^(j+1)=x/32^j/32:=by
 rw [Int.pow_succ,Int.ediv_ediv_of_nonneg (Int.pow_nonneg (by decide))]
theorem div32_le {x B:Int} (h0:0≤x) (h1:x≤B):∀j:Nat,0≤x/32^j∧x/32^j≤B
 |0=>by simp;omega
 |j+1=>by
  have:=div32_le h0 h1 j;rw [pow32]
  omega
theorem make_u8n:∀t:Nat,t≤4→∀w:World,(Instr.makeSlice 68 (.int .i64 ((t:Int)+1)) (.int .i64 ((t:Int)+1))).run Tryz.prog w= .ok (.slice (some ⟨w.heap.size,0,none⟩) (t+1) (t+1)) (w.alloc (.cells (u8s (List.replicate (t+1) 0)).toArray 5))
 |0,_,w=>by kernel_rfl
 |1,_,w=>by kernel_rfl
 |2,_,w=>by kernel_rfl
 |3,_,w=>by kernel_rfl
 |4,_,w=>by kernel_rfl
 |_+5,h,_=>absurd h (by omega)
def MPost (w:World) (l:List Int) (e:Ending) (w':World):Prop:=e= .returned (.string (strOfNums l))∧Below w.heap.size w w'
def MRel (w:World) (a t:Nat) (c:Int) (cv iv:Value) (wr:World):Prop:=
 ∃k j:Nat,k+j=t∧cv= .int .u32 (c/32^j)∧iv= .int .i64 k∧wr.heap[a]? =some (.cells (u8s (List.replicate (k+1) 0++md c j)).toArray 5 (0,0))∧Below w.heap.size w wr
theorem lead_or {c:Int} (h0:160≤c) (h1:c≤1114111):bits .or .u8 (mL c) (c/32^mT c)=mL c+c/32^mT c∧0≤c/32^mT c∧c/32^mT c≤31∧192≤mL c∧mL c≤248:=by
 unfold mL mT
 repeat' split
 ·have or1:bits .or .u8 192 (c/32)=192+c/32:=bits_join .u8 8 (by decide) wraps_u8 5 192 _ (by omega) (by omega) (by omega) (by omega) (by omega) (by omega)
  have e:c/32^1=c/32:=by simp
  rw [e]
  exact ⟨or1,by omega,by omega,by decide,by decide⟩
 ·have or1:bits .or .u8 224 (c/1024)=224+c/1024:=bits_join .u8 8 (by decide) wraps_u8 4 224 _ (by omega) (by omega) (by omega) (by omega) (by omega) (by omega)
  have e:c/32^2=c/1024:=rfl;rw [e]
  exact ⟨or1,by omega,by omega,by decide,by decide⟩
 ·have or1:bits .or .u8 240 (c/32768)=240+c/32768:=bits_join .u8 8 (by decide) wraps_u8 3 240 _ (by omega) (by omega) (by omega) (by omega) (by omega) (by omega)
  have e:c/32^3=c/32768:=rfl;rw [e]
  exact ⟨or1,by omega,by omega,by decide,by decide⟩
 ·have or1:bits .or .u8 248 (c/1048576)=248+c/1048576:=bits_join .u8 8 (by decide) wraps_u8 2 248 _ (by omega) (by omega) (by omega) (by omega) (by omega) (by omega)
  have e:c/32^4=c/1048576:=rfl;rw [e]
  exact ⟨or1,by omega,by omega,by decide,by decide⟩
theorem mT_le (c:Int):mT c≤4:=by unfold mT;repeat' (first|omega|split)
set_option maxRecDepth 100000 in
set_option maxHeartbeats 4000000 in
theorem mod8_bytes (g:Nat) (c:Int) (w:World) (h0:0≤c) (hb:isB c=true):
  Calls Tryz.prog 158 #[.pointer (some ⟨g,0,none⟩),.int .u32 c] w (MPost w (mod8B c)):=by
 have hb1:=(isB_iff.1 hb).1;unfold mod8B
 by_cases k1:c<160
 ·rw [if_pos k1]
  have hcv:(convert 68 9 (.slice (some ⟨w.heap.size,0,none⟩) 1 1)).run Tryz.prog (w.alloc (.cells #[.int .u8 c] 5))= .ok (.string (strOfNums [c])) (w.alloc (.cells #[.int .u8 c] 5)):=conv_new w [c] 1 rfl;go_enter Tryz.func158,Tryz.ntmps158;go_wp2;go_ret;exact ⟨rfl,(Below.refl _ _).alloc (Nat.le_refl _) _⟩
 ·rw [if_neg k1]
  obtain ⟨l1,l2,l3,l4,l5⟩:=lead_or (by omega) hb1;have htl:=mT_le c;have hmt:(c<1024∧mT c=1∧mL c=192)∨(¬c<1024∧c<16384∧mT c=2∧mL c=224)∨(¬c<1024∧¬c<16384∧c<262144∧mT c=3∧mL c=240)∨(¬c<1024∧¬c<16384∧¬c<262144∧mT c=4∧mL c=248):=by
   unfold mT mL
   by_cases a:c<1024
   ·simp [a]
   ·by_cases b:c<16384
    ·simp [a,b]
    ·by_cases d:c<262144
     ·simp [a,b,d]
     ·simp [a,b,d]
  generalize mT c=t at*;generalize mL c=ld at*;have HT:=Lib.hid hmt;have HL:=Lib.hid (And.intro l1 (And.intro l2 l3))
  have hmk:=make_u8n t htl;clear hmt l1 l2 l3;go_enter Tryz.func158,Tryz.ntmps158;go_upto_block 0 with fail;go_cut [5,6] (fun nv lv wx=>nv= .int .i64 ((t:Int)+1)∧lv= .int .u8 ld∧w=wx)
  case first=>
   rcases HT.out with ⟨a,rfl,rfl⟩|⟨a,b,rfl,rfl⟩|⟨a,b,d,rfl,rfl⟩|⟨a,b,d,rfl,rfl⟩
   all_goals
    go_wp2_with fail;go_meet;exact ⟨rfl,rfl,rfl⟩
  case rest=>
   obtain ⟨rfl,rfl,rfl⟩:=hcut;go_wp2_with fail;go_loopw [1,8] (fun cv i wr=>MRel w w.heap.size t c cv i wr) (fun _ i _=>(intOf i).toNat)
   case atStart=>
    refine ⟨t,0,by omega,by simp,by go_num,?_,(Below.refl _ _).alloc (Nat.le_refl _) _⟩
    rw [heap_alloc_new]
    simp [md]
   case round=>
    obtain ⟨k,j,hkj,rfl,rfl,hbk,hbl⟩:=hrel;have HBk:=Lib.hid hbk;have HBl:=Lib.hid hbl;obtain ⟨x0,x1⟩:=div32_le h0 hb1 j;have hdg:md c (j+1)=(160+c/32^j%32)::md c j:=rfl;have hpw:=pow32 c j;have hle:j=t→bits .or .u8 ld (c/32^j)=ld+c/32^j∧0≤c/32^j∧c/32^j≤31:=fun h=>by rw [h];exact HL.out
    have hrs:j=t→c/32^t=c/32^j:=fun h=>by rw [h]
    generalize c/32^j=x at x0 x1 hdg hpw hle hrs ⊢;have HD:=Lib.hid (And.intro hdg hpw)
    clear hbk hbl hdg hpw
    by_cases hk:k=0
    ·obtain rfl:j=t:=by omega
     have HB0:=Lib.hid (show wr.heap[w.heap.size]? =some (.cells (u8s (List.replicate (0+1) 0++md c j)).toArray 5 (0,0)) by have:=HBk.out;rw [hk] at this;exact this)
     have hkn:¬(0:Int)<(k:Int):=by omega
     obtain ⟨y1,y2,y3⟩:=hle rfl;have hxe:=hrs rfl;have hset:(wr.setCell ⟨w.heap.size,0,none⟩ (.int .u8 (ld+x))).heap[w.heap.size]? =some (.cells (u8s ((ld+x)::md c j)).toArray 5 (0,0)):=by
      have:=pset (k:=0) (x:=ld+x) (D:=md c j)
      rw [heap_setCell_same wr _ _ _ _ _ HB0.out,this]
      rfl
     have hcv:=bytes_of hset;rw [show ((ld+x)::md c j).length=j+1 by rw [List.length_cons,md_length]] at hcv;have hfz:=frozen_of HB0.out;have hcl:=dcell (k:=0) HB0.out (by rw [List.length_append,List.length_replicate];omega)
     have HXe:=Lib.hid hxe;clear hset hle hrs hxe hmk hk HBk;go_wp2_with fail;go_ret;refine ⟨?_,HBl.out.setCell (Nat.le_refl _) _⟩
     rw [HXe.out]
     rfl
    ·obtain ⟨k,rfl⟩:∃n,k=n+1:=⟨k-1,by omega⟩
     have hk0:(0:Int)<((k+1:Nat):Int):=by omega
     have hfz:=frozen_of HBk.out;have hcl:=dcell (k:=k+1) HBk.out (by rw [List.length_append,List.length_replicate];omega)
     have hset:(wr.setCell ⟨w.heap.size,k+1,none⟩ (.int .u8 (160+x%32))).heap[w.heap.size]? =some (.cells (u8s (List.replicate (k+1) 0++(160+x%32)::md c j)).toArray 5 (0,0)):=by rw [heap_setCell_same wr _ _ _ _ _ HBk.out,pset]
     have HSet:=Lib.hid hset;have hkt:k+1<t+1:=by omega
     have an:bits .and .u32 x 31=x%32:=bits_mask .u32 32 (by decide) wraps_u32 5 (by decide) x (by omega) (by omega)
     have w1:IntKind.u8.wrap (x%32)=x%32:=by rw [IntKind.wrap_u8];omega
     have or1:bits .or .u8 160 (x%32)=160+x%32:=bits_join .u8 8 (by decide) wraps_u8 5 160 _ (by omega) (by omega) (by omega) (by omega) (by omega) (by omega)
     clear hset hle hrs hmk;go_wp2_with fail;go_roundw
     case rel=>
      refine ⟨k,j+1,by omega,by rw [HD.out.2],by go_num,?_,HBl.out.setCell (Nat.le_refl _) _⟩
      rw [HD.out.1]
      exact HSet.out
     case measure=>simp [intOf]
end Out
namespace Out
open Go.RowKit Win Stp Lst
set_option maxRecDepth 100000 in
set_option maxHeartbeats 8000000 in
theorem uni32_feed {T:TypeId} {R:Type} {rest:R→List Value} {B:R→Int→List Int} {N:R→Int→R} {I:R→Prop} {r:R} {w:World} {g:Nat} {l:List Int} {A:Option Addr} {cap:Nat} (room:Int) (h:OutAt T w g b40 [] (rest r))
  (hby:∀(r:R) (c:Int) (w':World) (b:B4) (l:List Int),I r→OutAt T w' g b l (rest r)→0≤c→isB c=true→l.length≤1000→Calls Tryz.prog 154 #[.pointer (some ⟨g,0,none⟩),.int .u32 c] w' fun e w2=>e= .returned (.string (strOfNums (B r c)))∧OutAt T w2 g b l (rest (N r c))∧Chg (ES g) w' w2)
  (hB:∀r c,(B r c).length≤5) (hI:I r) (hIN:∀r c,I r→0≤c→isB c=true→I (N r c))
  (hl:l.length≤600) (hA:∀wr,Chg (ES g) w wr→Lst wr .u32 A l) (hr:∀x∈l,0≤x∧isB x=true) (r1:4096≤room) (r2:room≤1000000):
  Calls Tryz.prog 153 #[.pointer (some ⟨g,0,none⟩),.slice A l.length cap,.int .i64 room] w (FeedPost T rest B N r w g l):=by
 have hgi:=give_calls room h (by decide) (by simp;omega)
 have H:=Lib.hid h;have HBy:=Lib.hid hby;have HA:=Lib.hid hA;have HR:=Lib.hid hr;have HI:=Lib.hid (fun n=>fold_inv hIN (l.take n) r hI (fun x hx=>hr x (List.mem_of_mem_take hx)))
 have HGi:=Lib.hid hgi;clear h hby hA hr hgi hI hIN;go_enter Tryz.func153,Tryz.ntmps153;go_wp2_with fail;refine HGi.out.mono ?_;rintro e w1 ⟨rfl,h1,hc1⟩
 have H1:=Lib.hid h1;have HC1:=Lib.hid hc1;clear h1 hc1;go_wp2_with fail;go_loopw [8,9] (fun vo i wr=>FeedRel T rest B N r w g l vo i wr) (fun _ i _=>l.length-(intOf i).toNat)
 case atStart=>exact ⟨0,Nat.zero_le _,rfl,rfl,H1.out,HC1.out⟩
 case round=>
  obtain ⟨n,hn,rfl,rfl,ho,hc⟩:=hrel;have hsl:=told_len N hB (l.take n) r;have hln:(l.take n).length=n:=by rw [List.length_take];omega
  rw [hln] at hsl;have HO:=Lib.hid ho;have HC:=Lib.hid hc;have HKe:=Lib.hid (kept_calls ho (by decide))
  have hgoing:=going_calls g _ wr ho.base;have hge:({b40 with at_:=(n:Int)}:B4).going=true:=rfl;rw [hge] at hgoing;have HGg:=Lib.hid hgoing;have hXs:=str_size (told B N r (l.take n))
  clear ho hc hgoing hge hln
  by_cases hlt:n<l.length
  ·obtain ⟨a,rfl,q⟩:=(HA.out wr HC.out) n hlt
   have hrx:=HR.out (l.getD n 0) (by rw [List.getD_eq_getElem?_getD,List.getElem?_eq_getElem hlt];exact List.getElem_mem _)
   have htk:l.take (n+1)=l.take n++[l.getD n 0]:=by rw [List.take_succ_eq_append_getElem hlt,List.getD_eq_getElem?_getD,List.getElem?_eq_getElem hlt];rfl
   obtain ⟨t1,t2⟩:=told_snoc B N (l.getD n 0) (l.take n) r;rw [←htk] at t1 t2;have hA2:=HA.out;obtain ⟨x,hx⟩:∃x,x=l.getD n 0:=⟨_,rfl⟩
   have hq2:∀w2,Chg (ES g) wr w2→w2.cell? (a.add n)=some (.int .u32 x):=fun w2 hc2=>by
    obtain ⟨a2,ha2,q2⟩:=(HA.out w2 (HC.out.trans hc2)) n hlt;injection ha2 with ha2
    rw [←ha2] at q2;rw [q2,hx]
   rw [←hx] at q hrx t1 t2;obtain ⟨x0,xb⟩:=hrx;have hisx:=sis_calls x;rw [xb] at hisx;obtain ⟨S,hS⟩:∃S,S=told B N r (l.take n):=⟨_,rfl⟩
   obtain ⟨rn,hrn⟩:∃q,q=foldN N r (l.take n):=⟨_,rfl⟩
   rw [←hS,←hrn] at t1;rw [←hrn] at t2;rw [←hrn] at HO;have HIn:=Lib.hid (show I rn by rw [hrn];exact HI.out n)
   rw [←hS] at hXs hsl;rw [←hS]
   have HIs:=Lib.hid hisx;have HXB:=Lib.hid xb;have HT:=Lib.hid (And.intro t1 t2)
   have hbx:=hB rn x;have HQ2:=Lib.hid hq2;clear hisx xb t1 t2 hx htk hA2 hS hrn hq2;go_wp2_with fail;refine HKe.out.mono ?_;rintro e w2 ⟨rfl,rfl⟩
   go_wp2_with fail;refine HGg.out.mono ?_;rintro e w2 ⟨rfl,rfl⟩
   go_wp2_with fail;refine (HIs.out _).mono ?_;rintro e w2 ⟨rfl,rfl⟩
   go_upto_region 6 with fail;go_cut [] from 16 to 74 (fun wx=>OutAt T wx g {b40 with at_:=(n:Int)} (B rn x) (rest (N rn x))∧Chg (ES g) wr wx)
   case first=>
    have hd0:=Lib.hid (HO.out.drewN 1)
    go_region_with (first|(go_at_call 154;refine (HBy.out rn x _ _ _ HIn.out hd0.out x0 HXB.out (by decide)).mono ?_;rintro e w2 ⟨rfl,ho2,hc2⟩;have HO2:=Lib.hid ho2;have HC2:=Lib.hid ((Chg.drew (S:=ES g) _).trans hc2);clear ho2 hc2)|(go_at_call 146;refine (keep_calls (B rn x) HO2.out (by decide) (by omega)).mono ?_;rintro e w3 ⟨rfl,ho3,hc3⟩;have HO3:=Lib.hid ho3;have HC3:=Lib.hid (HC2.out.trans hc3);clear ho3 hc3))
    all_goals
     go_wp2_with fail;go_meet;exact ⟨HO3.out,HC3.out⟩
   case rest=>
    obtain ⟨ho2,hc2⟩:=hcut;have hea:=eat_calls g _ 1 wc ho2.base rfl (by decide) (by decide) (show (0:Int)≤(n:Int) by omega) (show (n:Int)≤1000000000 by omega)
    have HO2:=Lib.hid ho2;have HC2:=Lib.hid hc2;have HEa:=Lib.hid hea;clear ho2 hc2 hea;go_wp2_with fail;refine HEa.out.mono ?_;rintro e w3 ⟨rfl,rfl⟩
    have ho3:=HO2.out.setAt ((n:Int)+1)
    obtain ⟨w3,hw3⟩:∃w3,w3=wc.setCell ⟨g,0,none⟩ (.int .i64 ((n:Int)+1)):=⟨_,rfl⟩
    have hw3':wc.setCell ⟨g,0,none⟩ (.int .i64 (({b40 with at_:=(n:Int)}:B4).at_+1))=w3:=hw3.symm;have HC3:=Lib.hid (show Chg (ES g) wr w3 by rw [hw3];exact HC2.out.trans (es_g 0 _))
    rw [←hw3] at ho3;rw [hw3']
    have hgv:=give_calls (room-(S.length:Int)) ho3 (by omega) (by omega)
    have HGv:=Lib.hid hgv;clear hw3 hw3' ho3 hgv;go_wp2_with fail;refine HGv.out.mono ?_;rintro e w4 ⟨rfl,ho4,hc4⟩
    have HO4:=Lib.hid ho4;have HC4:=Lib.hid (HC3.out.trans hc4)
    have hT:=str_size (B rn x)
    have happ:=str_append S (B rn x)
    have HAp:=Lib.hid happ;clear ho4 hc4;go_wp2_with fail;go_roundw
    case rel=>
     refine ⟨n+1,hlt,by rw [HT.out.1],by go_num,?_,HC.out.trans HC4.out⟩
     rw [HT.out.2]
     have:=HO4.out;simpa using this
    case measure=>simp [intOf];omega
  ·obtain rfl:n=l.length:=by omega
   obtain ⟨S,hS⟩:∃S,S=told B N r (l.take l.length):=⟨_,rfl⟩
   rw [←hS]
   have HS:=Lib.hid hS;clear hS;go_wp2_with fail;go_ret2;have hS:=HS.out;have hO:=HO.out;rw [List.take_length] at hS hO;exact ⟨by rw [←hS];rfl,hO,HC.out⟩
set_option maxRecDepth 100000 in
set_option maxHeartbeats 8000000 in
theorem mod8_feed {T:TypeId} {R:Type} {rest:R→List Value} {B:R→Int→List Int} {N:R→Int→R} {I:R→Prop} {r:R} {w:World} {g:Nat} {l:List Int} {A:Option Addr} {cap:Nat} (room:Int) (h:OutAt T w g b40 [] (rest r))
  (hby:∀(r:R) (c:Int) (w':World) (b:B4) (l:List Int),I r→OutAt T w' g b l (rest r)→0≤c→isB c=true→l.length≤1000→Calls Tryz.prog 158 #[.pointer (some ⟨g,0,none⟩),.int .u32 c] w' fun e w2=>e= .returned (.string (strOfNums (B r c)))∧OutAt T w2 g b l (rest (N r c))∧Chg (ES g) w' w2)
  (hB:∀r c,(B r c).length≤5) (hI:I r) (hIN:∀r c,I r→0≤c→isB c=true→I (N r c))
  (hl:l.length≤600) (hA:∀wr,Chg (ES g) w wr→Lst wr .u32 A l) (hr:∀x∈l,0≤x∧isB x=true) (r1:4096≤room) (r2:room≤1000000):
  Calls Tryz.prog 156 #[.pointer (some ⟨g,0,none⟩),.slice A l.length cap,.int .i64 room] w (FeedPost T rest B N r w g l):=by
 have hgi:=give_calls room h (by decide) (by simp;omega)
 have H:=Lib.hid h;have HBy:=Lib.hid hby;have HA:=Lib.hid hA;have HR:=Lib.hid hr;have HI:=Lib.hid (fun n=>fold_inv hIN (l.take n) r hI (fun x hx=>hr x (List.mem_of_mem_take hx)))
 have HGi:=Lib.hid hgi;clear h hby hA hr hgi hI hIN;go_enter Tryz.func156,Tryz.ntmps156;go_wp2_with fail;refine HGi.out.mono ?_;rintro e w1 ⟨rfl,h1,hc1⟩
 have H1:=Lib.hid h1;have HC1:=Lib.hid hc1;clear h1 hc1;go_wp2_with fail;go_loopw [8,9] (fun vo i wr=>FeedRel T rest B N r w g l vo i wr) (fun _ i _=>l.length-(intOf i).toNat)
 case atStart=>exact ⟨0,Nat.zero_le _,rfl,rfl,H1.out,HC1.out⟩
 case round=>
  obtain ⟨n,hn,rfl,rfl,ho,hc⟩:=hrel;have hsl:=told_len N hB (l.take n) r;have hln:(l.take n).length=n:=by rw [List.length_take];omega
  rw [hln] at hsl;have HO:=Lib.hid ho;have HC:=Lib.hid hc;have HKe:=Lib.hid (kept_calls ho (by decide))
  have hgoing:=going_calls g _ wr ho.base;have hge:({b40 with at_:=(n:Int)}:B4).going=true:=rfl;rw [hge] at hgoing;have HGg:=Lib.hid hgoing;have hXs:=str_size (told B N r (l.take n))
  clear ho hc hgoing hge hln
  by_cases hlt:n<l.length
  ·obtain ⟨a,rfl,q⟩:=(HA.out wr HC.out) n hlt
   have hrx:=HR.out (l.getD n 0) (by rw [List.getD_eq_getElem?_getD,List.getElem?_eq_getElem hlt];exact List.getElem_mem _)
   have htk:l.take (n+1)=l.take n++[l.getD n 0]:=by rw [List.take_succ_eq_append_getElem hlt,List.getD_eq_getElem?_getD,List.getElem?_eq_getElem hlt];rfl
   obtain ⟨t1,t2⟩:=told_snoc B N (l.getD n 0) (l.take n) r;rw [←htk] at t1 t2;have hA2:=HA.out;obtain ⟨x,hx⟩:∃x,x=l.getD n 0:=⟨_,rfl⟩
   have hq2:∀w2,Chg (ES g) wr w2→w2.cell? (a.add n)=some (.int .u32 x):=fun w2 hc2=>by
    obtain ⟨a2,ha2,q2⟩:=(HA.out w2 (HC.out.trans hc2)) n hlt;injection ha2 with ha2
    rw [←ha2] at q2;rw [q2,hx]
   rw [←hx] at q hrx t1 t2;obtain ⟨x0,xb⟩:=hrx;have hisx:=sis_calls x;rw [xb] at hisx;obtain ⟨S,hS⟩:∃S,S=told B N r (l.take n):=⟨_,rfl⟩
   obtain ⟨rn,hrn⟩:∃q,q=foldN N r (l.take n):=⟨_,rfl⟩
   rw [←hS,←hrn] at t1;rw [←hrn] at t2;rw [←hrn] at HO;have HIn:=Lib.hid (show I rn by rw [hrn];exact HI.out n)
   rw [←hS] at hXs hsl;rw [←hS]
   have HIs:=Lib.hid hisx;have HXB:=Lib.hid xb;have HT:=Lib.hid (And.intro t1 t2)
   have hbx:=hB rn x;have HQ2:=Lib.hid hq2;clear hisx xb t1 t2 hx htk hA2 hS hrn hq2;go_wp2_with fail;refine HKe.out.mono ?_;rintro e w2 ⟨rfl,rfl⟩
   go_wp2_with fail;refine HGg.out.mono ?_;rintro e w2 ⟨rfl,rfl⟩
   go_wp2_with fail;refine (HIs.out _).mono ?_;rintro e w2 ⟨rfl,rfl⟩
   go_upto_region 6 with fail;go_cut [] from 16 to 74 (fun wx=>OutAt T wx g {b40 with at_:=(n:Int)} (B rn x) (rest (N rn x))∧Chg (ES g) wr wx)
   case first=>
    have hd0:=Lib.hid (HO.out.drewN 1)
    go_region_with (first|(go_at_call 158;refine (HBy.out rn x _ _ _ HIn.out hd0.out x0 HXB.out (by decide)).mono ?_;rintro e w2 ⟨rfl,ho2,hc2⟩;have HO2:=Lib.hid ho2;have HC2:=Lib.hid ((Chg.drew (S:=ES g) _).trans hc2);clear ho2 hc2)|(go_at_call 146;refine (keep_calls (B rn x) HO2.out (by decide) (by omega)).mono ?_;rintro e w3 ⟨rfl,ho3,hc3⟩;have HO3:=Lib.hid ho3;have HC3:=Lib.hid (HC2.out.trans hc3);clear ho3 hc3))
    all_goals
     go_wp2_with fail;go_meet;exact ⟨HO3.out,HC3.out⟩
   case rest=>
    obtain ⟨ho2,hc2⟩:=hcut;have hea:=eat_calls g _ 1 wc ho2.base rfl (by decide) (by decide) (show (0:Int)≤(n:Int) by omega) (show (n:Int)≤1000000000 by omega)
    have HO2:=Lib.hid ho2;have HC2:=Lib.hid hc2;have HEa:=Lib.hid hea;clear ho2 hc2 hea;go_wp2_with fail;refine HEa.out.mono ?_;rintro e w3 ⟨rfl,rfl⟩
    have ho3:=HO2.out.setAt ((n:Int)+1)
    obtain ⟨w3,hw3⟩:∃w3,w3=wc.setCell ⟨g,0,none⟩ (.int .i64 ((n:Int)+1)):=⟨_,rfl⟩
    have hw3':wc.setCell ⟨g,0,none⟩ (.int .i64 (({b40 with at_:=(n:Int)}:B4).at_+1))=w3:=hw3.symm;have HC3:=Lib.hid (show Chg (ES g) wr w3 by rw [hw3];exact HC2.out.trans (es_g 0 _))
    rw [←hw3] at ho3;rw [hw3']
    have hgv:=give_calls (room-(S.length:Int)) ho3 (by omega) (by omega)
    have HGv:=Lib.hid hgv;clear hw3 hw3' ho3 hgv;go_wp2_with fail;refine HGv.out.mono ?_;rintro e w4 ⟨rfl,ho4,hc4⟩
    have HO4:=Lib.hid ho4;have HC4:=Lib.hid (HC3.out.trans hc4)
    have hT:=str_size (B rn x)
    have happ:=str_append S (B rn x)
    have HAp:=Lib.hid happ;clear ho4 hc4;go_wp2_with fail;go_roundw
    case rel=>
     refine ⟨n+1,hlt,by rw [HT.out.1],by go_num,?_,HC.out.trans HC4.out⟩
     rw [HT.out.2]
     have:=HO4.out;simpa using this
    case measure=>simp [intOf];omega
  ·obtain rfl:n=l.length:=by omega
   obtain ⟨S,hS⟩:∃S,S=told B N r (l.take l.length):=⟨_,rfl⟩
   rw [←hS]
   have HS:=Lib.hid hS;clear hS;go_wp2_with fail;go_ret2;have hS:=HS.out;have hO:=HO.out;rw [List.take_length] at hS hO;exact ⟨by rw [←hS];rfl,hO,HC.out⟩
end Out
namespace Out
open Go.RowKit Win Stp Lst
def toF (x:Int):Int:=toL.getD x.toNat 0
theorem frozen_of2 {w:World} {g k:Nat} {cs:Array Value} {t:TypeId} {f1 f2:Nat} (h:w.heap[g]? =some (.cells cs t (f1,f2))) (hk:k<f1):w.frozen? ⟨g,k,none⟩=false:=by
 simp [World.frozen?,h]
 omega
def rowCells (l:List Int) (Z:List Value):Array Value:=(u8s l++Z).toArray
theorem row_cell {w:World} {g k f1 f2:Nat} {l:List Int} {Z:List Value} (h:w.heap[g]? =some (.cells (rowCells l Z) 5 (f1,f2))) (hk:k<l.length):w.cell? ⟨g,k,none⟩=some (.int .u8 (l.getD k 0)):=by
 simp [World.cell?,h,rowCells,u8s,List.getElem?_append,hk,List.getD_eq_getElem?_getD]
theorem row_set {l:List Int} {Z:List Value} {k:Nat} {x:Int} (hk:k<l.length):(rowCells l Z).setIfInBounds k (.int .u8 x)=rowCells (l.set k x) Z:=by
 unfold rowCells u8s;apply Array.toList_inj.1;simp only [Array.toList_setIfInBounds,List.map_set]
 rw [List.set_append,if_pos (by rw [List.length_map];exact hk)]
theorem setCell_row {w:World} {g k f1 f2:Nat} {cs:Array Value} {t:TypeId} {v:Value} (h:w.heap[g]? =some (.cells cs t (f1,f2))):(w.setCell ⟨g,k,none⟩ v).heap[g]? =some (.cells (cs.setIfInBounds k v) t (f1,f2)):=by
 simp [World.setCell,Array.getElem?_modify,h]
def TRel (w:World) (a f1 f2:Nat) (l:List Int) (Z:List Value) (i:Value) (wr:World):Prop:=
 ∃k:Nat,k≤l.length∧i= .int .i64 k∧wr.heap[a]? =some (.cells (rowCells ((l.take k).map toF++l.drop k) Z) 5 (f1,f2))∧Below w.heap.size w wr
theorem bytesCells_row (w:World) (l:List Int) (h:∀x∈l,0≤x∧x≤255):Lib.bytesCells w 5 (strOfNums l)=rowCells l (List.replicate (grownCap w l.length 0 5-l.length) (.int .u8 0)):=by
 have hs:(strOfNums l).size=l.length:=str_size l;unfold Lib.bytesCells rowCells u8s;rw [hs]
 apply Array.toList_inj.1;simp only [Array.toList_append,Array.toList_map,Array.toList_replicate]
 congr 1
 unfold strOfNums;simp only [List.map_map]
 apply List.map_congr_left;intro x hx;have:=h x hx;simp;omega
theorem map_step {l:List Int} {k:Nat} (hk:k<l.length):((l.take k).map toF++l.drop k).set k (toF (l.getD k 0))=(l.take (k+1)).map toF++l.drop (k+1):=by
 have hl:((l.take k).map toF).length=k:=by rw [List.length_map,List.length_take];omega
 have ht:l.take (k+1)=l.take k++[l.getD k 0]:=by
  rw [List.take_succ_eq_append_getElem hk,List.getD_eq_getElem?_getD,List.getElem?_eq_getElem hk];rfl
 rw [List.set_append,hl,if_neg (Nat.lt_irrefl k),Nat.sub_self,Lst.drop_cons hk,List.set_cons_zero,ht,List.map_append,List.append_assoc]
 rfl
theorem toF_rng {x:Int} (h0:0≤x) (h1:x≤255):0≤toF x∧toF x≤255:=to_rng ⟨x.toNat,by omega⟩
set_option maxRecDepth 100000 in
set_option maxHeartbeats 4000000 in
theorem text_calls (gt:Nat) (l:List Int) (w:World) (h:TabAt w gt) (hl:l.length≤100000) (hr:∀x∈l,0≤x∧x≤255):
  Calls Tryz.prog 157 #[.pointer (some ⟨gt,0,none⟩),.string (strOfNums l)] w fun e w'=>e= .returned (.string (strOfNums (l.map toF)))∧Below w.heap.size w w':=by
 have hgl:gt<w.heap.size:=(Array.getElem?_eq_some_iff.1 h).1;have hcv:=Lib.run_convert_string_bytes (P:=Tryz.prog) w 9 68 5 (strOfNums l) Tryz.underlying9 Tryz.underlying68 Tryz.underlying5;have hs:(strOfNums l).size=l.length:=str_size l;rw [hs] at hcv;obtain ⟨W,hW⟩:∃W,W=Lib.bytesWorld w 5 (strOfNums l):=⟨_,rfl⟩
 obtain ⟨Z,hZ⟩:∃Z,Z=List.replicate (grownCap w l.length 0 5-l.length) (Value.int .u8 0):=⟨_,rfl⟩
 obtain ⟨f1,hf1⟩:∃f,f=(Lib.bytesCells w 5 (strOfNums l)).size:=⟨_,rfl⟩
 obtain ⟨a,ha⟩:∃a,a=w.heap.size:=⟨_,rfl⟩
 obtain ⟨cap,hcap⟩:∃c,c=grownCap w l.length 0 5:=⟨_,rfl⟩
 have hnew:W.heap[a]? =some (.cells (rowCells l Z) 5 (f1,f1+1)):=by
  rw [hW,ha,Lib.bytesWorld_at_new,←hf1,bytesCells_row w l hr,←hZ]
 have hfl:l.length≤f1:=by
  rw [hf1,bytesCells_row w l hr]
  simp [rowCells,u8s]
 have hbw:Below w.heap.size w W:=by
  rw [hW]
  exact ⟨rfl,rfl,rfl,by rw [Lib.bytesWorld_size];omega,fun i hi=>Lib.bytesWorld_at_old w _ _ i hi⟩
 rw [←hW,←ha,←hcap] at hcv;have HT:=Lib.hid (show TabAt W gt from (hbw.block gt hgl).trans h)
 have HN:=Lib.hid hnew;have HB:=Lib.hid hbw;have HR:=Lib.hid hr;have HA:=Lib.hid (show w.heap.size=a∧gt<a from ⟨ha.symm,by omega⟩)
 clear hnew hbw hW hZ hf1 ha hs h hr hgl hcap;obtain ⟨S0,hS0⟩:∃S,S=strOfNums l:=⟨_,rfl⟩
 rw [←hS0] at hcv;rw [←hS0]
 clear hS0;go_enter Tryz.func157,Tryz.ntmps157;go_wp2_with fail;go_loopw [12] (fun i wr=>TRel w a f1 (f1+1) l Z i wr∧TabAt wr gt) (fun i _=>l.length-(intOf i).toNat)
 case atStart=>exact ⟨⟨0,Nat.zero_le _,rfl,HN.out,HB.out⟩,HT.out⟩
 case round=>
  obtain ⟨⟨k,hk,rfl,hrow,hb⟩,htab⟩:=hrel;have HRow:=Lib.hid hrow;have HBr:=Lib.hid hb;have HTr:=Lib.hid htab;clear hrow hb htab;have hll:((l.take k).map toF++l.drop k).length=l.length:=by rw [List.length_append,List.length_map,List.length_take,List.length_drop];omega
  by_cases hlt:k<l.length
  ·have hc:=row_cell (k:=k) HRow.out (by omega)
   have hge:((l.take k).map toF++l.drop k).getD k 0=l.getD k 0:=by
    have e:((l.take k).map toF).length=k:=by rw [List.length_map,List.length_take];omega
    rw [List.getD_eq_getElem?_getD,List.getD_eq_getElem?_getD,List.getElem?_append_right (by omega),e,Nat.sub_self,List.getElem?_drop,Nat.add_zero]
   rw [hge] at hc;have hms:=map_step hlt;have hxr:=HR.out (l.getD k 0) (by rw [List.getD_eq_getElem?_getD,List.getElem?_eq_getElem hlt];exact List.getElem_mem _)
   have htf:toF (l.getD k 0)=toL.getD (l.getD k 0).toNat 0:=rfl;generalize l.getD k 0=x at hc hms hxr htf;obtain ⟨x0,x1⟩:=hxr;have hct:=tab_cell1 (k:=x.toNat) HTr.out rfl (by omega)
   rw [←htf] at hct;have hfz:=frozen_of2 (k:=k) HRow.out (by omega)
   have hset:(wr.setCell ⟨a,k,none⟩ (.int .u8 (toF x))).heap[a]? =some (.cells (rowCells ((l.take (k+1)).map toF++l.drop (k+1)) Z) 5 (f1,f1+1)):=by
    rw [setCell_row HRow.out,row_set (by omega),hms]
   have HS:=Lib.hid hset;have HT2:=Lib.hid (show TabAt (wr.setCell ⟨a,k,none⟩ (.int .u8 (toF x))) gt from (Below.heap_setCell wr ⟨a,k,none⟩ (.int .u8 (toF x)) gt (by have:=HA.out;show gt≠a;omega)).trans HTr.out)
   clear hge hms htf hset hll;generalize toF x=y at*;go_wp2_with fail;go_roundw
   case rel=>exact ⟨⟨k+1,hlt,by go_num,HS.out,HBr.out.setCell (by have:=HA.out;show w.heap.size≤a;omega) _⟩,HT2.out⟩
   case measure=>simp [intOf];omega
  ·obtain rfl:k=l.length:=by omega
   have hrow:=HRow.out;rw [List.take_length,List.drop_length,List.append_nil] at hrow;have hcb:=run_convert_bytes_arg (P:=Tryz.prog) (w:=wr) 68 5 Tryz.underlying68 Tryz.underlying5 a 0 l.length cap (l.map toF) (by rw [List.length_map]) (fun i hi=>by
    rw [Nat.zero_add]
    exact row_cell hrow (by rw [List.length_map];exact hi)) 9 Tryz.underlying9
   clear hrow hll;go_wp2_with fail;go_ret;exact ⟨rfl,HBr.out⟩
end Out
namespace Out
open Go.RowKit Win Stp Lst
def ptR (gt:Nat):Unit→List Value:=fun _=>[.pointer (some ⟨gt,0,none⟩)]
def mdB:Unit→Int→List Int:=fun _ c=>mod8B c
def ebB:Unit→Int→List Int:=fun _ c=>(mod8B c).map toF
def unN:Unit→Int→Unit:=fun _ _=>()
theorem told_map {R:Type} {B:R→Int→List Int} {N:R→Int→R} (f:Int→Int):∀(l:List Int) (r:R),told (fun r c=>(B r c).map f) N r l=(told B N r l).map f
 |[],_=>rfl
 |x::l,r=>by
  show (B r x).map f++told (fun r c=>(B r c).map f) N (N r x) l=(B r x++told B N (N r x) l).map f
  rw [List.map_append,told_map f l]
theorem mod8B_len (c:Int):(mod8B c).length≤5:=by
 unfold mod8B
 split
 ·simp
 ·rw [List.length_cons,md_length]
  unfold mT
  repeat' split
  all_goals omega
theorem mod8B_rng {c:Int} (h0:0≤c) (hb:isB c=true):∀x∈mod8B c,0≤x∧x≤255:=by
 have hb1:=(isB_iff.1 hb).1;intro x hx;unfold mod8B at hx
 split at hx
 ·simp at hx
  omega
 ·rcases List.mem_cons.1 hx with rfl|hx
  ·unfold mL mT
   repeat' split
   all_goals
    simp only [show (32:Int)^1=32 from rfl,show (32:Int)^2=1024 from rfl,show (32:Int)^3=32768 from rfl,show (32:Int)^4=1048576 from rfl]
    omega
  ·have hmd:∀(j:Nat) (x:Int),x∈md c j→160≤x∧x≤191:=by
    intro j
    induction j with
    |zero=>intro x hx;cases hx
    |succ j ih=>
     intro x hx;rcases List.mem_cons.1 hx with rfl|hx
     ·omega
     ·exact ih x hx
   have:=hmd _ _ hx;omega
theorem told_rng {R:Type} {B:R→Int→List Int} {N:R→Int→R} {lo hi:Int}:∀(l:List Int) (r:R),(∀x∈l,∀r,∀y∈B r x,lo≤y∧y≤hi)→∀y∈told B N r l,lo≤y∧y≤hi
 |[],_,_=>fun y hy=>by cases hy
 |x::l,r,h=>fun y hy=>by
  rcases List.mem_append.1 hy with hy|hy
  ·exact h x (List.mem_cons_self ..) r y hy
  ·exact told_rng l _ (fun z hz=>h z (List.mem_cons_of_mem _ hz)) y hy
theorem ebcdic_new (w:World):Calls Tryz.prog 65 #[] w fun e w'=>∃g,w.heap.size<g∧e= .returned (.pointer (some ⟨g,0,none⟩))∧OutAt 178 w' g b40 [] (ptR w.heap.size ())∧TabAt w' w.heap.size∧Below w.heap.size w w':=by
 go_enter Tryz.func65,Tryz.ntmps65;go_wp2_with fail;refine (perm_new _).mono ?_;rintro e w1 ⟨rfl,ht,hb⟩
 have hlt:w.heap.size<w1.heap.size:=(Array.getElem?_eq_some_iff.1 ht).1;go_wp2_with fail;go_ret;exact ⟨_,hlt,rfl,⟨heap_alloc_new _ _⟩,(Below.heap_alloc _ _ _ hlt).trans ht,hb.alloc (by omega) _⟩
set_option maxRecDepth 100000 in
set_option maxHeartbeats 8000000 in
theorem ebcdic_feed {w:World} {g gt:Nat} {l:List Int} {A:Option Addr} {cap:Nat} (room:Int) (h:OutAt 178 w g b40 [] (ptR gt ())) (ht:TabAt w gt) (hgt:gt≠g)
  (hl:l.length≤600) (hA:∀wr,Chg (ES g) w wr→Lst wr .u32 A l) (hr:∀x∈l,0≤x∧isB x=true) (r1:4096≤room) (r2:room≤1000000):
  Calls Tryz.prog 155 #[.pointer (some ⟨g,0,none⟩),.slice A l.length cap,.int .i64 room] w (FeedPost 178 (ptR gt) ebB unN () w g l):=by
 have hfd:=mod8_feed (cap:=cap) (l:=l) (rest:=ptR gt) (B:=mdB) (N:=unN) (I:=fun _=>True) (r:=()) room h (fun r c w' b l _ h h0 hb hl=>(mod8_bytes g c w' h0 hb).mono (fun e w2 hp=>⟨hp.1,h.below hp.2,Chg.of_below hp.2⟩)) (fun _ c=>mod8B_len c) trivial (fun _ _ _ _ _=>trivial) hl hA hr r1 r2;have hlen:=told_len (B:=mdB) unN (fun _ c=>mod8B_len c) l ()
 have hrg:=told_rng (B:=mdB) (N:=unN) l () (fun x hx r=>mod8B_rng (hr x hx).1 (hr x hx).2)
 have hmp:=told_map (B:=mdB) (N:=unN) toF l ()
 obtain ⟨S,hS⟩:∃S,S=told mdB unN () l:=⟨_,rfl⟩
 unfold FeedPost at hfd;rw [←hS] at hfd hlen hrg hmp;have hmp':told ebB unN () l=S.map toF:=hmp;have htx:=fun wx h=>text_calls gt S wx h (by omega) hrg
 have H:=Lib.hid h;have HTx:=Lib.hid htx;have HFd:=Lib.hid hfd;have HMp:=Lib.hid hmp';have HTa:=Lib.hid (fun wr (hc:Chg (ES g) w wr)=>show TabAt wr gt from (hc.block gt (Array.getElem?_eq_some_iff.1 ht).1 (by intro hh;have:gt=g:=hh;exact hgt this)).trans ht)
 have hsz:=str_size S;clear h ht hA hr hfd hrg hmp hmp' htx hS;go_enter Tryz.func155,Tryz.ntmps155;go_wp2_with fail;refine HFd.out.mono ?_;rintro e w1 ⟨rfl,h1,hc1⟩
 have h5:=h1.c5;have HT1:=Lib.hid (HTx.out w1 (HTa.out w1 hc1))
 have H1:=Lib.hid h1;have HC1:=Lib.hid hc1;clear h1 hc1;go_wp2_with fail;refine HT1.out.mono ?_;rintro e w2 ⟨rfl,hb2⟩
 go_wp2_with fail;go_ret2;exact ⟨by rw [HMp.out];rfl,H1.out.below hb2,HC1.out.trans (Chg.of_below hb2)⟩
end Out
namespace Out
open Go.RowKit Win Stp Lst
def uni8B (c:Int):List Int:=
 if c<128 then [c] else if c<2048 then [192+c/64,128+c%64] else if c<65536 then [224+c/4096,128+c/64%64,128+c%64]
 else [240+c/262144,128+c/4096%64,128+c/64%64,128+c%64]
def TailPost (w:World) (v:Int) (e:Ending) (w':World):Prop:=e= .returned (.int .u8 v)∧w=w'
theorem tail_val (x:Int) (h0:0≤x) (h1:x≤4294967295):bits .or .u8 128 (bits .and .u8 (x%256) 63)=128+x%64:=by
 have an:bits .and .u8 (x%256) 63=(x%256)%64:=bits_mask .u8 8 (by decide) wraps_u8 6 (by decide) (x%256) (by omega) (by omega)
 rw [an]
 have or1:bits .or .u8 128 ((x%256)%64)=128+(x%256)%64:=bits_join .u8 8 (by decide) wraps_u8 6 128 _ (by omega) (by omega) (by omega) (by omega) (by omega) (by omega)
 rw [or1]
 omega
theorem tail0_calls (p:Nat) (c:Int) (w:World) (h:w.cell? ⟨p,0,none⟩=some (.int .u32 c)) (h0:0≤c) (h1:c≤1114111):Calls Tryz.prog 149 #[.int .i64 0,.pointer (some ⟨p,0,none⟩)] w (TailPost w (128+c%64)):=by
 have hv:=Lib.hid (tail_val c h0 (by omega))
 have w1:IntKind.u8.wrap c=c%256:=by rw [IntKind.wrap_u8]
 go_enter Tryz.func149,Tryz.ntmps149;go_wp2;go_ret;exact ⟨by rw [←hv.out];rfl,rfl⟩
theorem tail1_calls (p:Nat) (c:Int) (w:World) (h:w.cell? ⟨p,0,none⟩=some (.int .u32 c)) (h0:0≤c) (h1:c≤1114111):Calls Tryz.prog 149 #[.int .i64 1,.pointer (some ⟨p,0,none⟩)] w (TailPost w (128+c/64%64)):=by
 have hv:=Lib.hid (tail_val (c/64) (by omega) (by omega))
 have w1:IntKind.u8.wrap (c/64)=c/64%256:=by rw [IntKind.wrap_u8]
 go_enter Tryz.func149,Tryz.ntmps149;go_wp2;go_ret;exact ⟨by rw [←hv.out];rfl,rfl⟩
theorem tail2_calls (p:Nat) (c:Int) (w:World) (h:w.cell? ⟨p,0,none⟩=some (.int .u32 c)) (h0:0≤c) (h1:c≤1114111):Calls Tryz.prog 149 #[.int .i64 2,.pointer (some ⟨p,0,none⟩)] w (TailPost w (128+c/4096%64)):=by
 have hv:=Lib.hid (tail_val (c/4096) (by omega) (by omega))
 have w1:IntKind.u8.wrap (c/4096)=c/4096%256:=by rw [IntKind.wrap_u8]
 go_enter Tryz.func149,Tryz.ntmps149;go_wp2;go_ret;exact ⟨by rw [←hv.out];rfl,rfl⟩
def tlv (c k:Int):Int:=if k=0 then 128+c%64 else if k=1 then 128+c/64%64 else 128+c/4096%64
theorem tail_calls (p:Nat) (c:Int) (w:World) (h:w.cell? ⟨p,0,none⟩=some (.int .u32 c)) (h0:0≤c) (h1:c≤1114111) (k:Int) (hk:k=0∨k=1∨k=2):Calls Tryz.prog 149 #[.int .i64 k,.pointer (some ⟨p,0,none⟩)] w (TailPost w (tlv c k)):=by
 rcases hk with rfl|rfl|rfl
 ·exact tail0_calls p c w h h0 h1
 ·exact tail1_calls p c w h h0 h1
 ·exact tail2_calls p c w h h0 h1
theorem below_drewN {B:Nat} {w W:World} (h:Below B w W) (n:Nat):Below B w (W.drewN n):=⟨h.os,h.tape,h.output,h.size,h.block⟩
theorem conv_newd (w:World) (l:List Int) (n:Nat) (hn:l.length=n):(convert 68 9 (.slice (some ⟨w.heap.size,0,none⟩) n n)).run Tryz.prog (w.alloc (.cells (u8s l).toArray 5)).drew= .ok (.string (strOfNums l)) (w.alloc (.cells (u8s l).toArray 5)).drew:=by
 subst hn;exact bytes_of (w:=(w.alloc (.cells (u8s l).toArray 5)).drew) (heap_alloc_new _ _)
def UB (w:World) (l:List Int) (e:Ending) (w':World):Prop:=e= .returned (.string (strOfNums l))∧Below w.heap.size w w'
set_option maxRecDepth 100000 in
set_option maxHeartbeats 4000000 in
theorem uni8_bytes (g:Nat) (c:Int) (w:World) (h0:0≤c) (hb:isB c=true):
  Calls Tryz.prog 147 #[.pointer (some ⟨g,0,none⟩),.int .u32 c] w (UB w (uni8B c)):=by
 have hb1:=(isB_iff.1 hb).1;obtain ⟨p,hp⟩:∃p,p=w.heap.size:=⟨_,rfl⟩
 obtain ⟨w1,hw1⟩:∃w1,w1=w.alloc (.cells #[.int .u32 c] 31):=⟨_,rfl⟩
 have hc1:w1.cell? ⟨p,0,none⟩=some (.int .u32 c):=by rw [hw1,hp,cell_of (heap_alloc_new _ _)];rfl
 have HB1:=Lib.hid (show Below w.heap.size w w1 by rw [hw1];exact (Below.refl _ _).alloc (Nat.le_refl _) _)
 unfold uni8B
 by_cases k1:c<128
 ·rw [if_pos k1]
  have hcv:(convert 68 9 (.slice (some ⟨w1.heap.size,0,none⟩) 1 1)).run Tryz.prog (w1.alloc (.cells #[.int .u8 c] 5))= .ok (.string (strOfNums [c])) (w1.alloc (.cells #[.int .u8 c] 5)):=conv_new w1 [c] 1 rfl;go_enter Tryz.func147,Tryz.ntmps147;go_upto_region 1 with fail;rw [←hw1,←hp]
  clear hw1 hp;go_wp2_with fail;go_ret;exact ⟨rfl,HB1.out.alloc HB1.out.size _⟩
 ·rw [if_neg k1]
  by_cases k2:c<2048
  ·rw [if_pos k2]
   have w2:IntKind.u8.wrap (c/64)=c/64:=by rw [IntKind.wrap_u8];omega
   have or1:bits .or .u8 192 (c/64)=192+c/64:=bits_join .u8 8 (by decide) wraps_u8 5 192 _ (by omega) (by omega) (by omega) (by omega) (by omega) (by omega)
   have hcv:(convert 68 9 (.slice (some ⟨w1.heap.size,0,none⟩) 2 2)).run Tryz.prog (w1.alloc (.cells #[.int .u8 (192+c/64),.int .u8 (tlv c 0)] 5)).drew= .ok (.string (strOfNums [192+c/64,tlv c 0])) (w1.alloc (.cells #[.int .u8 (192+c/64),.int .u8 (tlv c 0)] 5)).drew:=conv_newd w1 [192+c/64,tlv c 0] 2 rfl;have T0:=Lib.hid (tail_calls p c w1.drew hc1 h0 hb1)
   go_enter Tryz.func147,Tryz.ntmps147;go_upto_region 1 with fail;rw [←hw1,←hp]
   clear hw1 hp;go_upto_region 5 with fail;go_region_with (go_at_call 149;refine (T0.out _ (by decide)).mono ?_;rintro e w2 ⟨rfl,rfl⟩)
   all_goals
    go_wp2_with fail;go_ret;exact ⟨rfl,below_drewN (HB1.out.alloc HB1.out.size _) 1⟩
  ·rw [if_neg k2]
   by_cases k3:c<65536
   ·rw [if_pos k3]
    have w2:IntKind.u8.wrap (c/4096)=c/4096:=by rw [IntKind.wrap_u8];omega
    have or1:bits .or .u8 224 (c/4096)=224+c/4096:=bits_join .u8 8 (by decide) wraps_u8 4 224 _ (by omega) (by omega) (by omega) (by omega) (by omega) (by omega)
    have hcv:(convert 68 9 (.slice (some ⟨w1.heap.size,0,none⟩) 3 3)).run Tryz.prog (w1.alloc (.cells #[.int .u8 (224+c/4096),.int .u8 (tlv c 1),.int .u8 (tlv c 0)] 5)).drew= .ok (.string (strOfNums [224+c/4096,tlv c 1,tlv c 0])) (w1.alloc (.cells #[.int .u8 (224+c/4096),.int .u8 (tlv c 1),.int .u8 (tlv c 0)] 5)).drew:=conv_newd w1 [224+c/4096,tlv c 1,tlv c 0] 3 rfl;have T0:=Lib.hid (tail_calls p c w1.drew hc1 h0 hb1)
    go_enter Tryz.func147,Tryz.ntmps147;go_upto_region 1 with fail;rw [←hw1,←hp]
    clear hw1 hp;go_upto_region 7 with fail;go_region_with (go_at_call 149;refine (T0.out _ (by decide)).mono ?_;rintro e w2 ⟨rfl,rfl⟩)
    all_goals
     go_wp2_with fail;go_ret;exact ⟨rfl,below_drewN (HB1.out.alloc HB1.out.size _) 1⟩
   ·rw [if_neg k3]
    have w2:IntKind.u8.wrap (c/262144)=c/262144:=by rw [IntKind.wrap_u8];omega
    have or1:bits .or .u8 240 (c/262144)=240+c/262144:=bits_join .u8 8 (by decide) wraps_u8 3 240 _ (by omega) (by omega) (by omega) (by omega) (by omega) (by omega)
    have hcv:(convert 68 9 (.slice (some ⟨w1.heap.size,0,none⟩) 4 4)).run Tryz.prog (w1.alloc (.cells #[.int .u8 (240+c/262144),.int .u8 (tlv c 2),.int .u8 (tlv c 1),.int .u8 (tlv c 0)] 5)).drew= .ok (.string (strOfNums [240+c/262144,tlv c 2,tlv c 1,tlv c 0])) (w1.alloc (.cells #[.int .u8 (240+c/262144),.int .u8 (tlv c 2),.int .u8 (tlv c 1),.int .u8 (tlv c 0)] 5)).drew:=conv_newd w1 [240+c/262144,tlv c 2,tlv c 1,tlv c 0] 4 rfl;have T0:=Lib.hid (tail_calls p c w1.drew hc1 h0 hb1)
    go_enter Tryz.func147,Tryz.ntmps147;go_upto_region 1 with fail;rw [←hw1,←hp]
    clear hw1 hp;go_upto_region 8 with fail;go_region_with (go_at_call 149;refine (T0.out _ (by decide)).mono ?_;rintro e w2 ⟨rfl,rfl⟩)
    all_goals
     go_wp2_with fail;go_ret;exact ⟨rfl,below_drewN (HB1.out.alloc HB1.out.size _) 1⟩
end Out
end Go.Proofs.YtooiooledeblmaaGreat
