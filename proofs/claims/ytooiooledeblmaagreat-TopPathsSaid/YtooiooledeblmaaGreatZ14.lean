/- A block's bytes, by their length; a crate's totals. A crate's writer: its totals, its blocks, its head. A block made; a writer's block. A crate's writer: made, begun; the first that is no scalar. A crate's writer is given scalars. -/
import Derived.Test.YtooiooledeblmaaGreatZ13
import Derived.Deep.RegionHeld3
set_option linter.unusedVariables false
set_option linter.unusedSimpArgs false
namespace Go.Proofs.YtooiooledeblmaaGreat
namespace Dcd
open Go.RowKit Win Stp Mach Dec Phi Go.Proofs.YtooiooledeblmaaGreatW.PrintWords Go.Proofs.YtooiooledeblmaaGreatW.PrintLast Go.Proofs.YtooiooledeblmaaGreatW.PrintMore Out Lst
def cblk.T4:Bool×List (List Nat×List Nat):=(true,[([],[]),([0],[0]),([],[]),([2],[2]),([3],[3]),([4],[4]),([1,5],[1,5]),([],[]),([7],[7]),([8],[8]),([9],[9]),([10,5],[10]),([6,11],[6,11]),([],[]),([13],[13]),([14,11],[14]),([12,15],[12,15]),([],[]),([17],[17]),([16,18],[16,18]),([19,15,0,1,2,3,4,5,6,7,8,9,10,11,12,13,14,15,16,17,18,19],[19]),([20,0,1,2,3,4,5,6,7,8,9,10,11,12,13,14,15,16,17,18,19,20],[])])
def cblk.B4:List Nat:=[0,1,0,4,12,28,63,0,128,384,896,1980,4095,0,8192,28604,65535,0,131072,524287,1048575,2097151]
theorem cblk.tab4:rtab .any (opsOf Tryz.f102 4)=cblk.T4:=by kernel_rfl
theorem cblk.bits4:waitsOk cblk.T4.2 cblk.B4=true:=by kernel_rfl
theorem bright_calls (n x:Int) (p:ByteArray) (w:World) (h1:1≤n) (h2:n≤65536) (h3:1≤p.size) (h4:p.size≤1048576):
  Calls Tryz.prog 114 #[.agg #[.int .i64 n,.int .u32 x,.string p]] w fun e w'=>e= .returned (.int .i64 0)∧Below w.heap.size w w':=by
 go_enter Tryz.func114,Tryz.ntmps114;go_wp2_with fail;go_ret;exact ⟨rfl,(Below.refl _ _).alloc (Nat.le_refl _) _⟩
structure BlkG (g:Nat) (n x:Int) (p:ByteArray) (w w':World):Prop where
 bel:Below w.heap.size w w'
 c0:w'.cell? ⟨g,0,none⟩=some (.int .i64 n)
 c1:w'.cell? ⟨g,1,none⟩=some (.int .u32 x)
 c2:w'.cell? ⟨g,2,none⟩=some (.string p)
theorem BlkG.below {g:Nat} {n x:Int} {p:ByteArray} {w w1 w2:World} (h:BlkG g n x p w w1) (hb:Below w1.heap.size w1 w2):BlkG g n x p w w2:=by
 have hlt:g<w1.heap.size:=World.block_lt_of_cell? w1 _ h.c0;exact ⟨h.bel.trans (Below.mono hb h.bel.size),(hb.cell (p:=⟨g,0,none⟩) hlt).trans h.c0,(hb.cell (p:=⟨g,1,none⟩) hlt).trans h.c1,(hb.cell (p:=⟨g,2,none⟩) hlt).trans h.c2⟩
theorem BlkG.of {g:Nat} {n x:Int} {p:ByteArray} {w w1:World} (hb:Below w.heap.size w w1) (h:w1.heap[g]? =some (.cells #[.int .i64 n,.int .u32 x,.string p] 154 (0,0))):BlkG g n x p w w1:=
 ⟨hb,by rw [cell_of h];rfl,by rw [cell_of h];rfl,by rw [cell_of h];rfl⟩
def BytesPost (w:World) (k:Nat) (e:Ending) (w':World):Prop:=∃s:ByteArray,s.size=k∧e= .returned (.tuple #[.string s,.int .i64 0])∧Below w.heap.size w w'
set_option maxRecDepth 100000 in
set_option maxHeartbeats 16000000 in
theorem bbytes_calls (n x:Int) (p:ByteArray) (w:World) (h1:1≤n) (h2:n≤65536) (h3:1≤p.size) (h4:p.size≤1048576):
  Calls Tryz.prog 102 #[.agg #[.int .i64 n,.int .u32 x,.string p]] w (BytesPost w (13+p.size)):=by
 go_enter Tryz.func102,Tryz.ntmps102;go_wp2_with fail;refine (bright_calls n x p _ h1 h2 h3 h4).mono ?_;rintro e w1 ⟨rfl,hb⟩
 obtain ⟨g,hg⟩:∃g,g=w.heap.size:=⟨_,rfl⟩
 have hG:BlkG g n x p w w1:=BlkG.of (((Below.refl _ _).alloc (Nat.le_refl _) _).trans (Below.mono hb (by simp))) (by rw [hg];exact (hb.block w.heap.size (by simp)).trans (heap_alloc_new _ _))
 have HG0:=Lib.hid (hG.below (below_drewN (Below.refl _ _) 1))
 rw [←hg]
 clear hb hg hG;go_wp2_with fail;have HKp:Keeps [OneBlk 66,(fun v _=>v= .string (strOfNums [66])),(fun v _=>v= .pointer (some ⟨g,0,none⟩)),(fun v _=>v= .int .i64 n),(fun v _=>v= .int .u32 (IntKind.u32.wrap n)),(fun v _=>StrOf 4 v),(fun v _=>StrOf 5 v),(fun v _=>v= .pointer (some ⟨g,2,none⟩)),(fun v _=>v= .string p),(fun v _=>v= .int .i64 p.size),(fun v _=>v= .int .u32 (IntKind.u32.wrap p.size)),(fun v _=>StrOf 4 v),(fun v _=>StrOf 9 v),(fun v _=>v= .pointer (some ⟨g,1,none⟩)),(fun v _=>v= .int .u32 x),(fun v _=>StrOf 4 v),(fun v _=>StrOf 13 v),(fun v _=>v= .pointer (some ⟨g,2,none⟩)),(fun v _=>v= .string p),(fun v _=>StrOf (13+p.size) v),(fun v _=>StrOf (13+p.size) v),(fun v _=>v= .int .i64 0)]:=Keeps.cons (fun v w1 w2 hb h=>OneBlk.below h hb) (Keeps.cons (fun v w1 w2 _ h=>h) (Keeps.cons (fun v w1 w2 _ h=>h) (Keeps.cons (fun v w1 w2 _ h=>h) (Keeps.cons (fun v w1 w2 _ h=>h) (Keeps.cons (fun v w1 w2 _ h=>h) (Keeps.cons (fun v w1 w2 _ h=>h) (Keeps.cons (fun v w1 w2 _ h=>h) (Keeps.cons (fun v w1 w2 _ h=>h) (Keeps.cons (fun v w1 w2 _ h=>h) (Keeps.cons (fun v w1 w2 _ h=>h) (Keeps.cons (fun v w1 w2 _ h=>h) (Keeps.cons (fun v w1 w2 _ h=>h) (Keeps.cons (fun v w1 w2 _ h=>h) (Keeps.cons (fun v w1 w2 _ h=>h) (Keeps.cons (fun v w1 w2 _ h=>h) (Keeps.cons (fun v w1 w2 _ h=>h) (Keeps.cons (fun v w1 w2 _ h=>h) (Keeps.cons (fun v w1 w2 _ h=>h) (Keeps.cons (fun v w1 w2 _ h=>h) (Keeps.cons (fun v w1 w2 _ h=>h) (Keeps.cons (fun v w1 w2 _ h=>h) (Keeps.nil))))))))))))))))))))))
 refine start_ (n:=22) (S:=fun w'=>True) (ds:=[]) #[false,false,false,false,false,false,false,false,false,false,false,false,false,false,false,false,false,false,false,false,false,false] (by kernel_rfl) rfl rfl trivial (fun hHeld=>?_);refine with_tabW cblk.tab4 cblk.bits4 (fun HT_ HW_=>?_)
 refine phi_ 30 [0,1,2,3,4,5,6,7,8,9,10,11,12,13,14,15,16,17,18,19,20,21] (fun w'=>BlkG g n x p w w') (fun w1 w2=>Below w1.heap.size w1 w2) (fun j v w=>([OneBlk 66,(fun v _=>v= .string (strOfNums [66])),(fun v _=>v= .pointer (some ⟨g,0,none⟩)),(fun v _=>v= .int .i64 n),(fun v _=>v= .int .u32 (IntKind.u32.wrap n)),(fun v _=>StrOf 4 v),(fun v _=>StrOf 5 v),(fun v _=>v= .pointer (some ⟨g,2,none⟩)),(fun v _=>v= .string p),(fun v _=>v= .int .i64 p.size),(fun v _=>v= .int .u32 (IntKind.u32.wrap p.size)),(fun v _=>StrOf 4 v),(fun v _=>StrOf 9 v),(fun v _=>v= .pointer (some ⟨g,1,none⟩)),(fun v _=>v= .int .u32 x),(fun v _=>StrOf 4 v),(fun v _=>StrOf 13 v),(fun v _=>v= .pointer (some ⟨g,2,none⟩)),(fun v _=>v= .string p),(fun v _=>StrOf (13+p.size) v),(fun v _=>StrOf (13+p.size) v),(fun v _=>v= .int .i64 0)]:List (Value→World→Prop)).getD j (fun _ _=>True) v w) HT_.out HW_.out (by kernel_rfl) (by kernel_rfl) (by kernel_rfl) (Nat.le_refl 30) HG0.out (fun j v w1 w2 h1 h2=>HKp j v w1 w2 h1 h2) ?_ ?_
 ·refine phi_cons ?_ ?_
  ·intro a' w' hG hoff hon
   refine ⟨_,rfl,fun K hK=>?_⟩
   refine value_ (w1:=w'.alloc (.cells #[.int .u8 66] 5)) (v:=.slice (some ⟨w'.heap.size,0,none⟩) 1 1) (by rfl) rfl ?_ ?_
   ·go_simp
    try rfl
   ·exact hK _ _ (⟨_,rfl,heap_alloc_new _ _⟩) (hG.below ((Below.refl _ _).alloc (Nat.le_refl _) _)) ((Below.refl _ _).alloc (Nat.le_refl _) _)
  refine phi_cons ?_ ?_
  ·intro a' w' hG hoff hon
   refine ⟨_,rfl,fun K hK=>?_⟩
   obtain ⟨v0,f0,p0⟩:=hon 0 (by kernel_rfl)
   have e10:=f0 10 rfl;clear f0;obtain ⟨k0,rfl,z0⟩:OneBlk 66 v0 w':=p0;refine value_ (w1:=w') (v:=.string (strOfNums [66])) (by rfl) rfl ?_ ?_
   ·have h0:=conv_blk z0
    go_simp
    try rfl
   ·exact hK _ _ rfl hG (Below.refl _ _)
  refine phi_cons ?_ ?_
  ·intro a' w' hG hoff hon
   refine ⟨_,rfl,fun K hK=>?_⟩
   have e1:a'.tmps[1]? =some (.pointer (some ⟨g,0,none⟩)):=(hoff 1 (by kernel_rfl)).trans rfl;refine value_ (w1:=w') (v:=.pointer (some ⟨g,0,none⟩)) (by rfl) rfl ?_ ?_
   ·go_simp
    try rfl
   ·exact hK _ _ rfl hG (Below.refl _ _)
  refine phi_cons ?_ ?_
  ·intro a' w' hG hoff hon
   refine ⟨_,rfl,fun K hK=>?_⟩
   obtain ⟨v2,f2,p2⟩:=hon 2 (by kernel_rfl)
   have e12:=f2 12 rfl;clear f2;obtain rfl:v2= .pointer (some ⟨g,0,none⟩):=p2;refine value_ (w1:=w') (v:=.int .i64 n) (by rfl) rfl ?_ ?_
   ·have h0:=hG.c0
    go_simp
    try rfl
   ·exact hK _ _ rfl hG (Below.refl _ _)
  refine phi_cons ?_ ?_
  ·intro a' w' hG hoff hon
   refine ⟨_,rfl,fun K hK=>?_⟩
   obtain ⟨v3,f3,p3⟩:=hon 3 (by kernel_rfl)
   have e13:=f3 13 rfl;clear f3;obtain rfl:v3= .int .i64 n:=p3;refine value_ (w1:=w') (v:=.int .u32 (IntKind.u32.wrap n)) (by rfl) rfl ?_ ?_
   ·go_simp
    try rfl
   ·exact hK _ _ rfl hG (Below.refl _ _)
  refine phi_cons ?_ ?_
  ·intro a' w' hG hoff hon
   refine ⟨_,rfl,fun K hK=>?_⟩
   obtain ⟨v4,f4,p4⟩:=hon 4 (by kernel_rfl)
   have e14:=f4 14 rfl;clear f4;obtain rfl:v4= .int .u32 (IntKind.u32.wrap n):=p4;refine goes_ Tryz.func103 (by kernel_rfl) rfl #[.int .u32 (IntKind.u32.wrap n)] (by rfl) rfl rfl (by simp [Act.eval,e14]) ?_;refine (four_calls _ _).mono ?_;rintro e w2 ⟨⟨s,rfl,hs⟩,hb⟩
   exact ⟨_,rfl,hK _ _ ⟨s,rfl,hs⟩ (hG.below hb) hb⟩
  refine phi_cons ?_ ?_
  ·intro a' w' hG hoff hon
   refine ⟨_,rfl,fun K hK=>?_⟩
   obtain ⟨v1,f1,p1⟩:=hon 1 (by kernel_rfl)
   have e11:=f1 11 rfl;clear f1;obtain rfl:v1= .string (strOfNums [66]):=p1;obtain ⟨v5,f5,p5⟩:=hon 5 (by kernel_rfl)
   have e15:=f5 15 rfl;clear f5;obtain ⟨s5,rfl,z5⟩:StrOf 4 v5:=p5;refine value_ (w1:=w') (v:=.string (strOfNums [66]++s5)) (by rfl) rfl ?_ ?_
   ·have hq:(strOfNums [66]).size=1:=str_size _
    go_simp
    try omega
   ·exact hK _ _ (⟨_,rfl,by rw [ByteArray.size_append,str_size];simp;omega⟩) hG (Below.refl _ _)
  refine phi_cons ?_ ?_
  ·intro a' w' hG hoff hon
   refine ⟨_,rfl,fun K hK=>?_⟩
   have e1:a'.tmps[1]? =some (.pointer (some ⟨g,0,none⟩)):=(hoff 1 (by kernel_rfl)).trans rfl;refine value_ (w1:=w') (v:=.pointer (some ⟨g,2,none⟩)) (by rfl) rfl ?_ ?_
   ·go_simp
    try rfl
   ·exact hK _ _ rfl hG (Below.refl _ _)
  refine phi_cons ?_ ?_
  ·intro a' w' hG hoff hon
   refine ⟨_,rfl,fun K hK=>?_⟩
   obtain ⟨v7,f7,p7⟩:=hon 7 (by kernel_rfl)
   have e17:=f7 17 rfl;clear f7;obtain rfl:v7= .pointer (some ⟨g,2,none⟩):=p7;refine value_ (w1:=w') (v:=.string p) (by rfl) rfl ?_ ?_
   ·have h0:=hG.c2
    go_simp
    try rfl
   ·exact hK _ _ rfl hG (Below.refl _ _)
  refine phi_cons ?_ ?_
  ·intro a' w' hG hoff hon
   refine ⟨_,rfl,fun K hK=>?_⟩
   obtain ⟨v8,f8,p8⟩:=hon 8 (by kernel_rfl)
   have e18:=f8 18 rfl;clear f8;obtain rfl:v8= .string p:=p8;refine value_ (w1:=w') (v:=.int .i64 p.size) (by rfl) rfl ?_ ?_
   ·go_simp
    try rfl
   ·exact hK _ _ rfl hG (Below.refl _ _)
  refine phi_cons ?_ ?_
  ·intro a' w' hG hoff hon
   refine ⟨_,rfl,fun K hK=>?_⟩
   obtain ⟨v9,f9,p9⟩:=hon 9 (by kernel_rfl)
   have e19:=f9 19 rfl;clear f9;obtain rfl:v9= .int .i64 p.size:=p9;refine value_ (w1:=w') (v:=.int .u32 (IntKind.u32.wrap p.size)) (by rfl) rfl ?_ ?_
   ·go_simp
    try rfl
   ·exact hK _ _ rfl hG (Below.refl _ _)
  refine phi_cons ?_ ?_
  ·intro a' w' hG hoff hon
   refine ⟨_,rfl,fun K hK=>?_⟩
   obtain ⟨v10,f10,p10⟩:=hon 10 (by kernel_rfl)
   have e20:=f10 20 rfl;clear f10;obtain rfl:v10= .int .u32 (IntKind.u32.wrap p.size):=p10;refine goes_ Tryz.func103 (by kernel_rfl) rfl #[.int .u32 (IntKind.u32.wrap p.size)] (by rfl) rfl rfl (by simp [Act.eval,e20]) ?_;refine (four_calls _ _).mono ?_;rintro e w2 ⟨⟨s,rfl,hs⟩,hb⟩
   exact ⟨_,rfl,hK _ _ ⟨s,rfl,hs⟩ (hG.below hb) hb⟩
  refine phi_cons ?_ ?_
  ·intro a' w' hG hoff hon
   refine ⟨_,rfl,fun K hK=>?_⟩
   obtain ⟨v6,f6,p6⟩:=hon 6 (by kernel_rfl)
   have e16:=f6 16 rfl;clear f6;obtain ⟨s6,rfl,z6⟩:StrOf 5 v6:=p6;obtain ⟨v11,f11,p11⟩:=hon 11 (by kernel_rfl)
   have e21:=f11 21 rfl;clear f11;obtain ⟨s11,rfl,z11⟩:StrOf 4 v11:=p11;refine value_ (w1:=w') (v:=.string (s6++s11)) (by rfl) rfl ?_ ?_
   ·go_simp
    try omega
   ·exact hK _ _ (⟨_,rfl,by rw [ByteArray.size_append];omega⟩) hG (Below.refl _ _)
  refine phi_cons ?_ ?_
  ·intro a' w' hG hoff hon
   refine ⟨_,rfl,fun K hK=>?_⟩
   have e1:a'.tmps[1]? =some (.pointer (some ⟨g,0,none⟩)):=(hoff 1 (by kernel_rfl)).trans rfl;refine value_ (w1:=w') (v:=.pointer (some ⟨g,1,none⟩)) (by rfl) rfl ?_ ?_
   ·go_simp
    try rfl
   ·exact hK _ _ rfl hG (Below.refl _ _)
  refine phi_cons ?_ ?_
  ·intro a' w' hG hoff hon
   refine ⟨_,rfl,fun K hK=>?_⟩
   obtain ⟨v13,f13,p13⟩:=hon 13 (by kernel_rfl)
   have e23:=f13 23 rfl;clear f13;obtain rfl:v13= .pointer (some ⟨g,1,none⟩):=p13;refine value_ (w1:=w') (v:=.int .u32 x) (by rfl) rfl ?_ ?_
   ·have h0:=hG.c1
    go_simp
    try rfl
   ·exact hK _ _ rfl hG (Below.refl _ _)
  refine phi_cons ?_ ?_
  ·intro a' w' hG hoff hon
   refine ⟨_,rfl,fun K hK=>?_⟩
   obtain ⟨v14,f14,p14⟩:=hon 14 (by kernel_rfl)
   have e24:=f14 24 rfl;clear f14;obtain rfl:v14= .int .u32 x:=p14;refine goes_ Tryz.func103 (by kernel_rfl) rfl #[.int .u32 x] (by rfl) rfl rfl (by simp [Act.eval,e24]) ?_;refine (four_calls _ _).mono ?_;rintro e w2 ⟨⟨s,rfl,hs⟩,hb⟩
   exact ⟨_,rfl,hK _ _ ⟨s,rfl,hs⟩ (hG.below hb) hb⟩
  refine phi_cons ?_ ?_
  ·intro a' w' hG hoff hon
   refine ⟨_,rfl,fun K hK=>?_⟩
   obtain ⟨v12,f12,p12⟩:=hon 12 (by kernel_rfl)
   have e22:=f12 22 rfl;clear f12;obtain ⟨s12,rfl,z12⟩:StrOf 9 v12:=p12;obtain ⟨v15,f15,p15⟩:=hon 15 (by kernel_rfl)
   have e25:=f15 25 rfl;clear f15;obtain ⟨s15,rfl,z15⟩:StrOf 4 v15:=p15;refine value_ (w1:=w') (v:=.string (s12++s15)) (by rfl) rfl ?_ ?_
   ·go_simp
    try omega
   ·exact hK _ _ (⟨_,rfl,by rw [ByteArray.size_append];omega⟩) hG (Below.refl _ _)
  refine phi_cons ?_ ?_
  ·intro a' w' hG hoff hon
   refine ⟨_,rfl,fun K hK=>?_⟩
   have e1:a'.tmps[1]? =some (.pointer (some ⟨g,0,none⟩)):=(hoff 1 (by kernel_rfl)).trans rfl;refine value_ (w1:=w') (v:=.pointer (some ⟨g,2,none⟩)) (by rfl) rfl ?_ ?_
   ·go_simp
    try rfl
   ·exact hK _ _ rfl hG (Below.refl _ _)
  refine phi_cons ?_ ?_
  ·intro a' w' hG hoff hon
   refine ⟨_,rfl,fun K hK=>?_⟩
   obtain ⟨v17,f17,p17⟩:=hon 17 (by kernel_rfl)
   have e27:=f17 27 rfl;clear f17;obtain rfl:v17= .pointer (some ⟨g,2,none⟩):=p17;refine value_ (w1:=w') (v:=.string p) (by rfl) rfl ?_ ?_
   ·have h0:=hG.c2
    go_simp
    try rfl
   ·exact hK _ _ rfl hG (Below.refl _ _)
  refine phi_cons ?_ ?_
  ·intro a' w' hG hoff hon
   refine ⟨_,rfl,fun K hK=>?_⟩
   obtain ⟨v16,f16,p16⟩:=hon 16 (by kernel_rfl)
   have e26:=f16 26 rfl;clear f16;obtain ⟨s16,rfl,z16⟩:StrOf 13 v16:=p16;obtain ⟨v18,f18,p18⟩:=hon 18 (by kernel_rfl)
   have e28:=f18 28 rfl;clear f18;obtain rfl:v18= .string p:=p18;refine value_ (w1:=w') (v:=.string (s16++p)) (by rfl) rfl ?_ ?_
   ·go_simp
    try omega
   ·exact hK _ _ (⟨_,rfl,by rw [ByteArray.size_append];omega⟩) hG (Below.refl _ _)
  refine phi_cons ?_ ?_
  ·intro a' w' hG hoff hon
   refine ⟨_,rfl,fun K hK=>?_⟩
   obtain ⟨v19,f19,p19⟩:=hon 19 (by kernel_rfl)
   have e29:=f19 29 rfl;clear f19;obtain ⟨s19,rfl,z19⟩:StrOf (13+p.size) v19:=p19;refine value_ (w1:=w') (v:=.string s19) (by rfl) rfl ?_ ?_
   ·go_simp
    try rfl
   ·exact hK _ _ (⟨_,rfl,z19⟩) hG (Below.refl _ _)
  refine phi_cons ?_ ?_
  ·intro a' w' hG hoff hon
   refine ⟨_,rfl,fun K hK=>?_⟩
   refine value_ (w1:=w') (v:=.int .i64 0) (by rfl) rfl ?_ ?_
   ·go_simp
    try rfl
   ·exact hK _ _ rfl hG (Below.refl _ _)
  exact phi_nil
 ·intro vals w' hG hF
  have hl0:=hF 21 (by decide)
  obtain ⟨s,hlast,hs⟩:StrOf (13+p.size) (vals 20):=hF 20 (by decide)
  have hlast2:vals 21= .int .i64 0:=hl0;simp only [Phi.putAll,Phi.dstOf,List.getElem?_toArray,List.getElem?_cons_succ,List.getElem?_cons_zero,Option.bind_some,Act.put,List.setIfInBounds_toArray,List.set_cons_zero,List.set_cons_succ,hlast,hlast2]
  have HB:=hG.bel;clear hG hF hlast hlast2;go_wp2_with fail;go_ret2;exact ⟨s,hs,rfl,HB⟩
end Dcd
namespace Dcd
open Go.RowKit Win Stp Mach Dec Go.Proofs.YtooiooledeblmaaGreatW.PrintMore Out Lst
def wrCells (c n:Int) (bg ov:Bool) (v:Value) (a b d:Int):Array Value:=#[.int .i64 c,.int .i64 n,.bool bg,.bool ov,v,.int .u32 a,.int .u64 b,.int .u64 d]
structure WrAt (w:World) (g:Nat) (c n:Int) (bg ov:Bool) (v:Value):Prop where
 blk:∃a b d,w.heap[g]? =some (.cells (wrCells c n bg ov v a b d) 109 (0,0))
section
variable {w:World} {g:Nat} {c n:Int} {bg ov:Bool} {v:Value}
theorem WrAt.lt (h:WrAt w g c n bg ov v):g<w.heap.size:=by obtain ⟨a,b,d,h⟩:=h.blk;exact (Array.getElem?_eq_some_iff.1 h).1
theorem WrAt.c0 (h:WrAt w g c n bg ov v):w.cell? ⟨g,0,none⟩=some (.int .i64 c):=by obtain ⟨a,b,d,h⟩:=h.blk;rw [cell_of h];rfl
theorem WrAt.c1 (h:WrAt w g c n bg ov v):w.cell? ⟨g,1,none⟩=some (.int .i64 n):=by obtain ⟨a,b,d,h⟩:=h.blk;rw [cell_of h];rfl
theorem WrAt.c2 (h:WrAt w g c n bg ov v):w.cell? ⟨g,2,none⟩=some (.bool bg):=by obtain ⟨a,b,d,h⟩:=h.blk;rw [cell_of h];rfl
theorem WrAt.c3 (h:WrAt w g c n bg ov v):w.cell? ⟨g,3,none⟩=some (.bool ov):=by obtain ⟨a,b,d,h⟩:=h.blk;rw [cell_of h];rfl
theorem WrAt.c4 (h:WrAt w g c n bg ov v):w.cell? ⟨g,4,none⟩=some v:=by obtain ⟨a,b,d,h⟩:=h.blk;rw [cell_of h];rfl
theorem WrAt.fz (h:WrAt w g c n bg ov v):∀j,w.frozen? ⟨g,j,none⟩=false:=by obtain ⟨a,b,d,h⟩:=h.blk;exact frozen_of h
theorem WrAt.keep {w':World} (h:WrAt w g c n bg ov v) (h0:w'.heap[g]? =w.heap[g]?):WrAt w' g c n bg ov v:=by obtain ⟨a,b,d,h⟩:=h.blk;exact ⟨a,b,d,h0.trans h⟩
theorem WrAt.below {w':World} (h:WrAt w g c n bg ov v) (hb:Below w.heap.size w w'):WrAt w' g c n bg ov v:=h.keep (hb.block g h.lt)
theorem WrAt.set2 (h:WrAt w g c n bg ov v) (b:Bool):WrAt (w.setCell ⟨g,2,none⟩ (.bool b)) g c n b ov v:=by
 obtain ⟨x,y,z,h⟩:=h.blk;exact ⟨x,y,z,by rw [heap_setCell_same w g 2 _ _ _ h];rfl⟩
theorem WrAt.set3 (h:WrAt w g c n bg ov v) (b:Bool):WrAt (w.setCell ⟨g,3,none⟩ (.bool b)) g c n bg b v:=by
 obtain ⟨x,y,z,h⟩:=h.blk;exact ⟨x,y,z,by rw [heap_setCell_same w g 3 _ _ _ h];rfl⟩
theorem WrAt.set4 (h:WrAt w g c n bg ov v) (u:Value):WrAt (w.setCell ⟨g,4,none⟩ u) g c n bg ov u:=by
 obtain ⟨x,y,z,h⟩:=h.blk;exact ⟨x,y,z,by rw [heap_setCell_same w g 4 _ _ _ h];rfl⟩
theorem WrAt.drewN (h:WrAt w g c n bg ov v) (k:Nat):WrAt (w.drewN k) g c n bg ov v:=h.keep rfl
end
structure TotAt (w0 w:World) (g r:Nat) (c n:Int) (bg ov:Bool) (v:Value) (k y:Int) (p:ByteArray) (a b d:Int):Prop where
 blk:w.heap[g]? =some (.cells (wrCells c n bg ov v a b d) 109 (0,0))
 box:w.heap[r]? =some (.cells #[.int .i64 k,.int .u32 y,.string p] 154 (0,0))
 chg:Chg (ES g) w0 w
theorem TotAt.set {w0 w:World} {g r:Nat} {c n:Int} {bg ov:Bool} {v:Value} {k y:Int} {p:ByteArray} {a b d:Int} (h:TotAt w0 w g r c n bg ov v k y p a b d) (hne:r≠g) (j:Nat) (x:Value) {a' b' d':Int} (he:(wrCells c n bg ov v a b d).setIfInBounds j x=wrCells c n bg ov v a' b' d'):
  TotAt w0 (w.setCell ⟨g,j,none⟩ x) g r c n bg ov v k y p a' b' d':=
 ⟨by rw [heap_setCell_same w g j _ _ _ h.blk,he],by rw [Below.heap_setCell _ _ _ _ hne];exact h.box,h.chg.trans (es_g j x)⟩
theorem TotAt.drew {w0 w:World} {g r:Nat} {c n:Int} {bg ov:Bool} {v:Value} {k y:Int} {p:ByteArray} {a b d:Int} (h:TotAt w0 w g r c n bg ov v k y p a b d):TotAt w0 w.drew g r c n bg ov v k y p a b d:=⟨h.blk,h.box,h.chg.trans (Chg.drew _)⟩
theorem tot_first {g:Nat} {c n:Int} {bg ov:Bool} {v:Value} (k y:Int) (p:ByteArray) {a b d x:Int} {w:World} (hb:w.heap[g]? =some (.cells (wrCells c n bg ov v a b d) 109 (0,0))):
  TotAt w ((w.setCell ⟨g,5,none⟩ (.int .u32 x)).alloc (.cells #[.int .i64 k,.int .u32 y,.string p] 154)) g w.heap.size c n bg ov v k y p x b d:=by
 have hlt:g<w.heap.size:=(Array.getElem?_eq_some_iff.1 hb).1;have hs:(w.setCell ⟨g,5,none⟩ (.int .u32 x)).heap.size=w.heap.size:=by simp [World.setCell]
 refine ⟨?_,?_,(es_g 5 _).trans (Chg.alloc _ _)⟩
 ·rw [Below.heap_alloc _ _ _ (by omega),heap_setCell_same w g 5 _ _ _ hb];rfl
 ·have:=heap_alloc_new (w.setCell ⟨g,5,none⟩ (.int .u32 x)) (.cells #[.int .i64 k,.int .u32 y,.string p] 154)
  rw [hs] at this;exact this
set_option maxHeartbeats 4000000 in
theorem tadd_calls {g:Nat} {c n:Int} {bg ov:Bool} {v:Value} (k y:Int) (p:ByteArray) {w:World} (h:WrAt w g c n bg ov v):
  Calls Tryz.prog 101 #[.pointer (some ⟨g,5,none⟩),.agg #[.int .i64 k,.int .u32 y,.string p]] w fun e w'=>e= .returned (.tuple #[])∧WrAt w' g c n bg ov v∧Chg (ES g) w w':=by
 obtain ⟨a,b,d,hb⟩:=h.blk;have c5:w.cell? ⟨g,5,none⟩=some (.int .u32 a):=by rw [cell_of hb];rfl
 have fz:=frozen_of hb;have hlt:g<w.heap.size:=h.lt;have HT:=Lib.hid (tot_first k y p (x:=(a+1)%4294967296) hb)
 clear hb h;go_enter Tryz.func101,Tryz.ntmps101;go_upto_region 2 with fail;obtain ⟨r,hr⟩:∃r,r=w.heap.size:=⟨_,rfl⟩
 have hne:r≠g:=by omega
 have hT:=HT.out;rw [←hr] at hT;rw [←hr]
 clear HT hr c5 fz;generalize (w.setCell ⟨g,5,none⟩ (.int .u32 ((a+1)%4294967296))).alloc (.cells #[.int .i64 k,.int .u32 y,.string p] 154)=w1 at hT ⊢;have c6:w1.cell? ⟨g,6,none⟩=some (.int .u64 b):=by rw [cell_of hT.blk];rfl
 have b0:w1.cell? ⟨r,0,none⟩=some (.int .i64 k):=by rw [cell_of hT.box];rfl
 have fz:=frozen_of hT.blk;have HT:=Lib.hid hT;clear hT;go_region_with fail;go_wp2_with fail
 all_goals
  have hT2:=(HT.out.set hne 6 (.int .u64 (IntKind.u64.wrap (b+IntKind.u64.wrap k))) (b':=IntKind.u64.wrap (b+IntKind.u64.wrap k)) rfl).drew;clear c6 b0 fz HT;generalize (w1.setCell ⟨g,6,none⟩ (.int .u64 (IntKind.u64.wrap (b+IntKind.u64.wrap k)))).drew=w2 at hT2 ⊢;have c7:w2.cell? ⟨g,7,none⟩=some (.int .u64 d):=by rw [cell_of hT2.blk];rfl
  have b2:w2.cell? ⟨r,2,none⟩=some (.string p):=by rw [cell_of hT2.box];rfl
  have fz:=frozen_of hT2.blk;have HT2:=Lib.hid hT2;clear hT2;go_region_with fail
  all_goals
   go_wp2_with fail;go_end0;have hT3:=(HT2.out.set hne 7 (.int .u64 (IntKind.u64.wrap (d+IntKind.u64.wrap p.size))) (d':=IntKind.u64.wrap (d+IntKind.u64.wrap p.size)) rfl).drew;exact ⟨rfl,⟨_,_,_,hT3.blk⟩,hT3.chg⟩
end Dcd
namespace Dcd
open Go.RowKit Win Stp Mach Dec Go.Proofs.YtooiooledeblmaaGreatW.PrintMore Out Lst
def MakePost (w:World) (n:Nat) (S:List Int) (e:Ending) (w':World):Prop:=(∃y,e= .returned (.tuple #[.agg #[.int .i64 n,.int .u32 y,.string (strOfNums S)],.agg #[.int .i64 0,.int .i64 0]]))∧Below w.heap.size w w'
set_option maxRecDepth 100000 in
set_option maxHeartbeats 8000000 in
theorem make_calls {c:Int} {A:Option Addr} {n cap:Nat} {S:List Int} {w:World} (h1:1≤n) (h2:n≤65536) (hS:S.length≤100000) (hE:∀w0,Below w.heap.size w w0→Calls Tryz.prog 17 #[.int .i64 c,.slice A n cap] w0 (EncPost w0 S)):
  Calls Tryz.prog 100 #[.int .i64 c,.slice A n cap] w (MakePost w n S):=by
 have HE:=Lib.hid hE;have hsz:=str_size S;obtain ⟨T,hT⟩:∃T,T=strOfNums S:=⟨_,rfl⟩
 have HT:=Lib.hid hT;have hsz':T.size≤100000:=by rw [hT,hsz];exact hS
 clear hE hS hsz hT;go_enter Tryz.func100,Tryz.ntmps100;go_wp2_with fail;have hb0:Below w.heap.size w ((w.alloc (.cells #[.int .i64 0,.int .u32 0,.string ⟨#[]⟩] 154)).alloc (.cells #[.int .i64 0,.int .i64 0] 39)):=((Below.refl _ _).alloc (Nat.le_refl _) _).alloc (by simp) _;have hB0:((w.alloc (.cells #[.int .i64 0,.int .u32 0,.string ⟨#[]⟩] 154)).alloc (.cells #[.int .i64 0,.int .i64 0] 39)).heap[w.heap.size]? =some (.cells #[.int .i64 0,.int .u32 0,.string ⟨#[]⟩] 154 (0,0)):=(Below.heap_alloc _ _ _ (by simp)).trans (heap_alloc_new _ _)
 have hF0:((w.alloc (.cells #[.int .i64 0,.int .u32 0,.string ⟨#[]⟩] 154)).alloc (.cells #[.int .i64 0,.int .i64 0] 39)).heap[w.heap.size+1]? =some (.cells #[.int .i64 0,.int .i64 0] 39 (0,0)):=by
  have:=heap_alloc_new (w.alloc (.cells #[.int .i64 0,.int .u32 0,.string ⟨#[]⟩] 154)) (.cells #[.int .i64 0,.int .i64 0] 39)
  simpa using this
 refine (HE.out _ hb0).mono ?_;rintro e w1 ⟨rfl,hb1⟩
 have hk:w.heap.size+1<w1.heap.size:=by have:=hb1.size;simp at this;omega
 have hB1:=(hb1.block w.heap.size (by simp;omega)).trans hB0;have hF1:=(hb1.block (w.heap.size+1) (by simp)).trans hF0;have HB1:=Lib.hid hB1;have HF1:=Lib.hid hF1;have HL1:=Lib.hid (hb0.trans (Below.mono hb1 hb0.size))
 rw [←HT.out]
 clear hb0 hB0 hF0 hb1 hB1 hF1;go_upto_region 8 with fail;go_wp2_with fail;have hcl:((w1.alloc (.cells #[.int .i64 0,.int .i64 0] 39)).alloc (.cells #[.string T] 9)).cell? ⟨w1.heap.size+1,0,none⟩=some (.string T):=by
  have:=heap_alloc_new (w1.alloc (.cells #[.int .i64 0,.int .i64 0] 39)) (.cells #[.string T] 9)
  rw [World.size_alloc] at this;rw [cell_of this];rfl
 refine (crc_of _ T _ hcl (by omega)).mono ?_;rintro e w2 ⟨⟨y,rfl⟩,hb2⟩
 have hB2:=(hb2.block w.heap.size (by simp;omega)).trans ((Below.heap_alloc _ _ _ (by simp;omega)).trans ((Below.heap_alloc _ _ _ (by omega)).trans HB1.out))
 have hF2:=(hb2.block (w.heap.size+1) (by simp;omega)).trans ((Below.heap_alloc _ _ _ (by simp;omega)).trans ((Below.heap_alloc _ _ _ (by omega)).trans HF1.out))
 have hL2:=(((HL1.out.alloc HL1.out.size _).alloc (by have:=HL1.out.size;simp;omega) _).trans (Below.mono hb2 (by have:=HL1.out.size;simp;omega)))
 have c0:w2.cell? ⟨w.heap.size,0,none⟩=some (.int .i64 0):=by rw [cell_of hB2];rfl
 have c1:w2.cell? ⟨w.heap.size,1,none⟩=some (.int .u32 0):=by rw [cell_of hB2];rfl
 have c2:w2.cell? ⟨w.heap.size,2,none⟩=some (.string ⟨#[]⟩):=by rw [cell_of hB2];rfl
 have d0:w2.cell? ⟨w.heap.size+1,0,none⟩=some (.int .i64 0):=by rw [cell_of hF2];rfl
 have d1:w2.cell? ⟨w.heap.size+1,1,none⟩=some (.int .i64 0):=by rw [cell_of hF2];rfl
 have fb:=frozen_of hB2;have ff:=frozen_of hF2;have HL2:=Lib.hid hL2;have HB2:=Lib.hid hB2;have HF2:=Lib.hid hF2;clear hb2 hcl hB2 hF2 hL2 HB1 HF1 HL1;go_wp2_with fail;have hBf:(((((w2.setCell ⟨w.heap.size,0,none⟩ (.int .i64 n)).setCell ⟨w.heap.size,1,none⟩ (.int .u32 y)).setCell ⟨w.heap.size,2,none⟩ (.string T)).setCell ⟨w.heap.size+1,0,none⟩ (.int .i64 0)).setCell ⟨w.heap.size+1,1,none⟩ (.int .i64 0)).heap[w.heap.size]? =some (.cells #[.int .i64 n,.int .u32 y,.string T] 154 (0,0)):=by
  rw [Below.heap_setCell _ _ _ _ (by show w.heap.size≠w.heap.size+1;omega),Below.heap_setCell _ _ _ _ (by show w.heap.size≠w.heap.size+1;omega)]
  rw [heap_setCell_same _ _ 2 _ _ _ (heap_setCell_same _ _ 1 _ _ _ (heap_setCell_same w2 _ 0 _ _ _ HB2.out))]
  rfl
 have hFf:(((((w2.setCell ⟨w.heap.size,0,none⟩ (.int .i64 n)).setCell ⟨w.heap.size,1,none⟩ (.int .u32 y)).setCell ⟨w.heap.size,2,none⟩ (.string T)).setCell ⟨w.heap.size+1,0,none⟩ (.int .i64 0)).setCell ⟨w.heap.size+1,1,none⟩ (.int .i64 0)).heap[w.heap.size+1]? =some (.cells #[.int .i64 0,.int .i64 0] 39 (0,0)):=by
  rw [heap_setCell_same _ _ 1 _ _ _ (heap_setCell_same _ _ 0 _ _ _ ((Below.heap_setCell _ _ _ _ (by show w.heap.size+1≠w.heap.size;omega)).trans ((Below.heap_setCell _ _ _ _ (by show w.heap.size+1≠w.heap.size;omega)).trans ((Below.heap_setCell _ _ _ _ (by show w.heap.size+1≠w.heap.size;omega)).trans HF2.out))))]
  rfl
 have hLf:=((((HL2.out.setCell (p:=⟨w.heap.size,0,none⟩) (Nat.le_refl _) (.int .i64 n)).setCell (p:=⟨w.heap.size,1,none⟩) (Nat.le_refl _) (.int .u32 y)).setCell (p:=⟨w.heap.size,2,none⟩) (Nat.le_refl _) (.string T)).setCell (p:=⟨w.heap.size+1,0,none⟩) (Nat.le_succ _) (.int .i64 0)).setCell (p:=⟨w.heap.size+1,1,none⟩) (Nat.le_succ _) (.int .i64 0)
 clear c0 c1 c2 d0 d1 fb ff HB2 HF2 HL2;generalize (((((w2.setCell ⟨w.heap.size,0,none⟩ (.int .i64 n)).setCell ⟨w.heap.size,1,none⟩ (.int .u32 y)).setCell ⟨w.heap.size,2,none⟩ (.string T)).setCell ⟨w.heap.size+1,0,none⟩ (.int .i64 0)).setCell ⟨w.heap.size+1,1,none⟩ (.int .i64 0))=w3 at hBf hFf hLf ⊢;have c0:w3.cell? ⟨w.heap.size,0,none⟩=some (.int .i64 n):=by rw [cell_of hBf];rfl
 have c1:w3.cell? ⟨w.heap.size,1,none⟩=some (.int .u32 y):=by rw [cell_of hBf];rfl
 have c2:w3.cell? ⟨w.heap.size,2,none⟩=some (.string T):=by rw [cell_of hBf];rfl
 have d0:w3.cell? ⟨w.heap.size+1,0,none⟩=some (.int .i64 0):=by rw [cell_of hFf];rfl
 have d1:w3.cell? ⟨w.heap.size+1,1,none⟩=some (.int .i64 0):=by rw [cell_of hFf];rfl
 refine bodyPost_ret (v:=.tuple #[.agg #[.int .i64 n,.int .u32 y,.string T],.agg #[.int .i64 0,.int .i64 0]]) (by simp [results,Tryz.results100,go_sem,c0,c1,c2,d0,d1]) rfl ⟨⟨y,by rw [HT.out]⟩,hLf⟩
def WblockPost (w:World) (g:Nat) (c n:Int) (bg ov:Bool) (v:Value) (k:Nat) (e:Ending) (w':World):Prop:=(∃s:ByteArray,e= .returned (.string s)∧s.size=k)∧WrAt w' g c n bg ov v∧Chg (ES g) w w'
set_option maxRecDepth 100000 in
set_option maxHeartbeats 8000000 in
theorem wblock_calls {g:Nat} {c n:Int} {bg ov:Bool} {v:Value} {A:Option Addr} {m cap:Nat} {S:List Int} {w:World} (h:WrAt w g c n bg ov v) (h1:1≤m) (h2:m≤65536) (hS1:1≤S.length) (hS:S.length≤100000)
  (hE:∀w0,Below w.heap.size w w0→Calls Tryz.prog 17 #[.int .i64 c,.slice A m cap] w0 (EncPost w0 S)):
  Calls Tryz.prog 59 #[.pointer (some ⟨g,0,none⟩),.slice A m cap] w (WblockPost w g c n bg ov v (13+S.length)):=by
 have HM:=Lib.hid (make_calls h1 h2 hS hE)
 have c0:=h.c0;have hlt:=h.lt;have H:=Lib.hid h;have hsz:=str_size S;obtain ⟨T,hT⟩:∃T,T=strOfNums S:=⟨_,rfl⟩
 have HT:=Lib.hid (show T.size=S.length by rw [hT,hsz])
 have hm:=HM.out;unfold MakePost at hm;rw [←hT] at hm;have HM:=Lib.hid hm;clear h hE hsz hT hm;go_enter Tryz.func59,Tryz.ntmps59;go_wp2_with fail;refine HM.out.mono ?_;rintro e w1 ⟨⟨y,rfl⟩,hb1⟩
 go_upto_region 2 with fail;obtain ⟨r,hr⟩:∃r,r=w1.heap.size:=⟨_,rfl⟩
 rw [←hr]
 obtain ⟨w2,hw2⟩:∃w2,w2=(w1.alloc (.cells #[.int .i64 m,.int .u32 y,.string T] 154)).alloc (.cells #[.int .i64 0,.int .i64 0] 39):=⟨_,rfl⟩
 have hr2:w2.heap[r]? =some (.cells #[.int .i64 m,.int .u32 y,.string T] 154 (0,0)):=by rw [hw2,hr];exact (Below.heap_alloc _ _ _ (by simp)).trans (heap_alloc_new _ _)
 have hb2:Below w.heap.size w w2:=by rw [hw2];exact (hb1.alloc hb1.size _).alloc (by have:=hb1.size;simp;omega) _
 have hne:r≠g:=by have:=hb1.size;omega
 have h2:=H.out.below hb2;have g0:w2.cell? ⟨r,0,none⟩=some (.int .i64 m):=by rw [cell_of hr2];rfl
 have g1:w2.cell? ⟨r,1,none⟩=some (.int .u32 y):=by rw [cell_of hr2];rfl
 have g2:w2.cell? ⟨r,2,none⟩=some (.string T):=by rw [cell_of hr2];rfl
 have HC2:=Lib.hid hb2;have HR2:=Lib.hid hr2;have HA:=Lib.hid (tadd_calls (m:Int) y T (h2.drewN 1))
 rw [←hw2]
 clear hr hw2 hr2 hb2 h2 hb1 c0;go_region_with (go_at_call 101;refine HA.out.mono ?_;rintro e w3 ⟨rfl,h3,hc3⟩)
 all_goals
  have hc3':Chg (ES g) w w3:=(Chg.of_below HC2.out).trans ((Chg.drewN _ 1).trans hc3)
  have hr3:w3.heap[r]? =some (.cells #[.int .i64 m,.int .u32 y,.string T] 154 (0,0)):=(hc3.block r (Array.getElem?_eq_some_iff.1 HR2.out).1 (fun h=>hne h)).trans HR2.out;have k0:w3.cell? ⟨r,0,none⟩=some (.int .i64 m):=by rw [cell_of hr3];rfl
  have k1:w3.cell? ⟨r,1,none⟩=some (.int .u32 y):=by rw [cell_of hr3];rfl
  have k2:w3.cell? ⟨r,2,none⟩=some (.string T):=by rw [cell_of hr3];rfl
  have H3:=Lib.hid h3;have HC3:=Lib.hid hc3';clear h3 hc3 hc3' hr3 g0 g1 g2 HA HR2 HC2;go_wp2_with fail;refine (bbytes_calls m y T _ (by omega) (by omega) (by rw [HT.out];omega) (by rw [HT.out];omega)).mono ?_;rintro e w4 ⟨s,hs,rfl,hb4⟩
  have HB4:=Lib.hid hb4;have HSz:=Lib.hid hs;clear hb4 k0 k1 k2 hs;go_wp2_with fail;go_ret;exact ⟨⟨s,rfl,by rw [HSz.out,HT.out]⟩,H3.out.below HB4.out,HC3.out.trans (Chg.of_below HB4.out)⟩
end Dcd
namespace Dcd
open Go.RowKit Win Stp Mach Dec Go.Proofs.YtooiooledeblmaaGreatW.PrintMore Out Lst
def NamePost (w:World) (e:Ending) (w':World):Prop:=(∃s:ByteArray,e= .returned (.string s)∧s.toList.isEmpty=false)∧Below w.heap.size w w'
set_option maxHeartbeats 4000000 in
theorem name_calls {c:Int} (h1:1≤c) (h2:c≤10) (w:World):Calls Tryz.prog 30 #[.int .i64 c] w (NamePost w):=by
 have:c=1∨c=2∨c=3∨c=4∨c=5∨c=6∨c=7∨c=8∨c=9∨c=10:=by omega
 rcases this with rfl|rfl|rfl|rfl|rfl|rfl|rfl|rfl|rfl|rfl
 all_goals
  go_enter Tryz.func30,Tryz.ntmps30;go_wp2_with fail;go_ret;exact ⟨⟨_,rfl,by decide +kernel⟩,(Below.refl _ _).alloc (Nat.le_refl _) _⟩
theorem cright_calls {c n:Int} (h1:1≤c) (h2:c≤10) (h3:1≤n) (h4:n≤65536) (w:World):Calls Tryz.prog 56 #[.int .i64 c,.int .i64 n] w fun e w'=>e= .returned (.int .i64 0)∧Below w.heap.size w w':=by
 go_enter Tryz.func56,Tryz.ntmps56;go_wp2_with fail;refine (name_calls h1 h2 _).mono ?_;rintro e w1 ⟨⟨s,rfl,hs⟩,hb⟩
 have HB:=Lib.hid hb;clear hb;go_wp2_with fail;go_ret;exact ⟨rfl,HB.out⟩
def NewWPost (w:World) (c n:Int) (e:Ending) (w':World):Prop:=∃g,w.heap.size≤g∧e= .returned (.tuple #[.pointer (some ⟨g,0,none⟩),.int .i64 0])∧WrAt w' g c n false false (.slice none 0 0)∧Below w.heap.size w w'
theorem newWriter_calls {c n:Int} (h1:1≤c) (h2:c≤10) (h3:1≤n) (h4:n≤65536) (w:World):Calls Tryz.prog 31 #[.int .i64 c,.int .i64 n] w (NewWPost w c n):=by
 go_enter Tryz.func31,Tryz.ntmps31;go_wp2_with fail;refine (cright_calls h1 h2 h3 h4 _).mono ?_;rintro e w1 ⟨rfl,hb⟩
 have HB:=Lib.hid hb;clear hb;go_wp2_with fail;go_ret2;exact ⟨_,HB.out.size,rfl,⟨0,0,0,heap_alloc_new _ _⟩,HB.out.alloc HB.out.size _⟩
def BeginPost (w:World) (g:Nat) (c n:Int) (v:Value) (k:Nat) (e:Ending) (w':World):Prop:=(∃s:ByteArray,e= .returned (.string s)∧s.size=k)∧WrAt w' g c n true false v∧Chg (ES g) w w'
theorem begin_again {g:Nat} {c n:Int} {v:Value} {w:World} (h:WrAt w g c n true false v):Calls Tryz.prog 58 #[.pointer (some ⟨g,0,none⟩)] w (BeginPost w g c n v 0):=by
 have c2:=h.c2;have H:=Lib.hid h;clear h;go_enter Tryz.func58,Tryz.ntmps58;go_wp2_with fail;go_ret;exact ⟨⟨_,rfl,rfl⟩,H.out,Chg.refl _⟩
set_option maxHeartbeats 4000000 in
theorem begin_first {g:Nat} {c n:Int} {v:Value} {w:World} (h:WrAt w g c n false false v):Calls Tryz.prog 58 #[.pointer (some ⟨g,0,none⟩)] w (BeginPost w g c n v 14):=by
 have c2:=h.c2;have f2:=h.fz 2;have hs:=h.set2 true;have d0:=hs.c0;have d1:=hs.c1;have HS:=Lib.hid hs;have HC:=Lib.hid (es_g (w:=w) (g:=g) 2 (.bool true))
 clear h hs;go_enter Tryz.func58,Tryz.ntmps58;go_upto_region 4 with fail;generalize w.setCell ⟨g,2,none⟩ (.bool true)=w1 at d0 d1 HS HC ⊢;go_region_with (go_at_call 99;refine (head_calls c n _).mono ?_;rintro e w2 ⟨⟨s,rfl,hs⟩,hb⟩)
 all_goals
  have HB:=Lib.hid hb;have HZ:=Lib.hid hs;clear hb hs;go_wp2_with fail;go_ret;have hb2:=Chg.of_below (S:=ES g) HB.out;exact ⟨⟨_,rfl,HZ.out⟩,(HS.out.drewN 1).below HB.out,HC.out.trans ((Chg.drewN _ 1).trans hb2)⟩
theorem first_calls {w:World} {A:Option Addr} {cap:Nat} {l:List Int} (h:Lst w .u32 A l) (hr:∀x∈l,0≤x∧isB x=true) (hl:l.length≤1000000):Calls Tryz.prog 57 #[.slice A l.length cap] w fun e w'=>e= .returned (.int .i64 (-1))∧w=w':=by
 have H:=Lib.hid h;have HR:=Lib.hid hr;clear h hr;go_enter Tryz.func57,Tryz.ntmps57;go_wp2_with fail;go_loopw [7] (fun v7 wr=>w=wr∧∃k:Nat,k≤l.length∧v7= .int .i64 k) (fun v7 _=>l.length-(intOf v7).toNat)
 case atStart=>exact ⟨rfl,0,Nat.zero_le _,rfl⟩
 case round=>
  obtain ⟨rfl,k,hk,rfl⟩:=hrel
  by_cases hlt:k<l.length
  ·obtain ⟨a,rfl,q⟩:=H.out k hlt
   have hx:=(HR.out (l.getD k 0) (by rw [List.getD_eq_getElem?_getD,List.getElem?_eq_getElem hlt];exact List.getElem_mem _)).2;generalize l.getD k 0=x at q hx;have HI:=Lib.hid (sis_calls x w)
   rw [hx] at HI;clear hx;go_wp2_with fail;refine HI.out.mono ?_;rintro e w1 ⟨rfl,rfl⟩
   go_wp2_with fail;go_roundw
   case rel=>exact ⟨trivial,k+1,hlt,by go_num⟩
   case measure=>simp [intOf];omega
  ·obtain rfl:k=l.length:=by omega
   go_wp2_with fail;go_ret;exact ⟨rfl,rfl⟩
end Dcd
namespace Dcd
open Go.RowKit Win Stp Mach Dec Go.Proofs.YtooiooledeblmaaGreatW.PrintMore Out Lst
def sumB (f:List Int→Nat) (n:Nat) (l:List Int):Nat→Nat
 |0=>0
 |k+1=>sumB f n l k+(13+f ((l.drop (k*n)).take n))
def Scal (l:List Int):Prop:=∀x∈l,0≤x∧isB x=true
theorem Scal.drop {l:List Int} (h:Scal l) (k:Nat):Scal (l.drop k):=fun x hx=>h x (List.mem_of_mem_drop hx)
theorem Scal.take {l:List Int} (h:Scal l) (k:Nat):Scal (l.take k):=fun x hx=>h x (List.mem_of_mem_take hx)
structure EncOK (c:Int) (enc:List Int→List Int) (M:Nat):Prop where
 top:M≤600
 lo:1≤c
 hi:c≤10
 len:∀l,Scal l→l.length≤M→(enc l).length≤8000
 pos:∀l,Scal l→l.length≤M→1≤l.length→1≤(enc l).length
 calls:∀{w:World} {A:Option Addr} {cap:Nat} {l:List Int},(∀wx,Below w.heap.size w wx→Lst wx .u32 A l)→Scal l→l.length≤M→l.length≤cap→(A=none→cap=0)→Calls Tryz.prog 17 #[.int .i64 c,.slice A l.length cap] w (EncPost w (enc l))
def AddPost (enc:List Int→List Int) (w0:World) (g:Nat) (c:Int) (n:Nat) (l:List Int) (e:Ending) (w':World):Prop:=
 ∃(k:Nat) (A':Option Addr) (c':Nat) (s:ByteArray),k*n≤l.length∧l.length<k*n+n∧e= .returned (.tuple #[.string s,.agg #[.int .i64 0,.int .i64 0]])∧s.size=14+sumB (fun x=>(enc x).length) n l k∧
  WrAt w' g c n true false (.slice A' (l.drop (k*n)).length c')∧(∀wx,Chg (ES g) w' wx→Lst wx .u32 A' (l.drop (k*n)))∧(A'=none→c'=0)∧(l.drop (k*n)).length≤c'∧Below w0.heap.size w0 w'
theorem chg_bel {S:Nat→Prop} {w w1 w2:World} (h:Chg S w w1) (hb:Below w.heap.size w1 w2):Chg S w w2:=
 ⟨hb.os.trans h.os,hb.tape.trans h.tape,hb.output.trans h.output,Nat.le_trans h.size hb.size,fun i hi hs=>(hb.block i hi).trans (h.block i hi hs)⟩
structure RowIn (wB w:World) (g:Nat) (c:Int) (n:Nat) (bg:Bool) (A:Option Addr) (c':Nat) (l:List Int):Prop where
 wr:WrAt w g c n bg false (.slice A l.length c')
 chg:Chg (ES g) wB w
 row:∀wx,Chg (ES g) wB wx→Lst wx .u32 A l
 nil:A=none→c'=0
 le:l.length≤c'
def LoopR (f:List Int→Nat) (wB:World) (w0:World) (g b r:Nat) (c:Int) (n:Nat) (l:List Int) (wr:World):Prop:=
 ∃(k:Nat) (A:Option Addr) (c':Nat) (s:ByteArray),k*n≤l.length∧RowIn wB wr g c n true A c' (l.drop (k*n))∧BldAt wB.heap.size b s wr∧s.size=14+sumB f n l k∧Below w0.heap.size w0 wr∧wr.heap[r]? =some (.cells #[.int .i64 0,.int .i64 0] 39 (0,0))
theorem own_row {w:World} {base g c n:Nat} {A:Option Addr} {xs:List Int} (h:w.ownsRow base 31 1 (.slice A n c) n (u32s xs)) (hg:g<base) {wx:World} (hc:Chg (ES g) w wx):Lst wx .u32 A xs:=by
 obtain rfl:n=xs.length:=by have:=h.1;rw [u32s_length] at this;omega
 refine (Lst.of_owns h).chg hc (fun a ha=>?_)
 subst ha;have:=(h.lt a.block rfl).1;intro hh;have:a.block=g:=hh;omega
theorem own_le {w:World} {base c n:Nat} {A:Option Addr} {vs:List Value} {e:TypeId} (h:w.ownsRow base e 1 (.slice A n c) n vs):n≤c:=by
 rcases h.2 with ⟨h1,h2⟩|⟨_,cap,_,h1,_,_,h4,_⟩
 ·injection h1 with _ _ h1;omega
 ·injection h1 with _ _ h1;omega
theorem other_keep {T:TypeId} {b i:Nat} {cs:Array Value} {w w':World} (h:Oth b w w') (hi:w.heap[i]? =some (.cells cs T (0,0))) (hne:i≠b) (hT:T≠5):w'.heap[i]? =some (.cells cs T (0,0)):=
 h i _ hi (by intro h;injection h with h;exact hne h) (by intro c fz h;injection h with h1 h2;exact hT h2)
theorem own_oth {w w':World} {base b n:Nat} {v:Value} {vs:List Value} (h:w.ownsRow base 31 1 v n vs) (ho:Oth b w w') (hb:b<base):w'.ownsRow base 31 1 v n vs:=by
 refine ⟨h.1,?_⟩
 rcases h.2 with h1|⟨g',cap,cur,hv,hbb,hh,r⟩
 ·exact .inl h1
 ·exact .inr ⟨g',cap,cur,hv,hbb,other_keep ho hh (by omega) (by decide),r⟩
theorem wr_oth {b g:Nat} {c n:Int} {bg ov:Bool} {v:Value} {w w':World} (h:WrAt w g c n bg ov v) (ho:Oth b w w') (hne:g≠b):WrAt w' g c n bg ov v:=by
 obtain ⟨x,y,z,h⟩:=h.blk;exact ⟨x,y,z,other_keep ho h hne (by decide)⟩
theorem Lst.drop {w:World} {k:IntKind} {a:Addr} {xs:List Int} (h:Lst w k (some a) xs) (n:Nat):Lst w k (some (a.add n)) (xs.drop n):=fun j hj=>by
 rw [List.length_drop] at hj;obtain ⟨b,hb,hc⟩:=h (n+j) (by omega)
 injection hb with hb
 subst hb;refine ⟨_,rfl,?_⟩
 rw [Deep.add_add,hc,List.getD_eq_getElem?_getD,List.getD_eq_getElem?_getD,List.getElem?_drop]
theorem RowIn.at {wB w w':World} {g:Nat} {c:Int} {n:Nat} {bg:Bool} {A:Option Addr} {c':Nat} {l:List Int} (h:RowIn wB w g c n bg A c' l) (hc:Chg (ES g) w w') (hw:WrAt w' g c n bg false (.slice A l.length c')):RowIn wB w' g c n bg A c' l:=⟨hw,h.chg.trans hc,h.row,h.nil,h.le⟩
theorem wb_at {c:Int} {enc:List Int→List Int} {M:Nat} (hE:EncOK c enc M) {wB w:World} {g n m c':Nat} {bg:Bool} {A:Option Addr} {l:List Int} (h:RowIn wB w g c n bg A c' l) (hn:m≤l.length) (h1:1≤m) (h2:m≤65536) (hs:Scal l) (hl:l.length≤M):
  Calls Tryz.prog 59 #[.pointer (some ⟨g,0,none⟩),.slice A m c'] w (WblockPost w g c n bg false (.slice A l.length c') (13+(enc (l.take m)).length)):=by
 have hlen:(l.take m).length=m:=by rw [List.length_take];omega
 refine wblock_calls h.wr h1 h2 (hE.pos _ (hs.take m) (by omega) (by omega)) (by have:=hE.len _ (hs.take m) (by omega);omega) (fun w0 hb=>?_)
 have:=hE.calls (w:=w0) (A:=A) (cap:=c') (l:=l.take m) (fun wx hx=>(h.row wx (h.chg.trans (Chg.of_below (hb.trans (Below.mono hx hb.size))))).take m) (hs.take m) (by omega) (by have:=h.le;omega) h.nil;rw [hlen] at this;exact this
theorem sumB_len {c:Int} {enc:List Int→List Int} {M:Nat} (hE:EncOK c enc M) (n:Nat) {l:List Int} (hs:Scal l) (hl:l.length≤M):∀k,sumB (fun x=>(enc x).length) n l k≤8013*k
 |0=>Nat.le_refl _
 |k+1=>by
  have h1:=sumB_len hE n hs hl k;have h2:=hE.len ((l.drop (k*n)).take n) ((hs.drop _).take _) (by rw [List.length_take,List.length_drop];omega)
  simp only [sumB]
  omega
theorem blk_le {k n m:Nat} (h:k*n≤m) (hn:1≤n):k≤m:=Nat.le_trans (Nat.le_mul_of_pos_right k hn) h
def lenAt (g:Nat) (w:World):Nat:=match w.cell? ⟨g,4,none⟩ with
 |some (.slice _ n _)=>n
 |_=>0
theorem lenAt_of {g:Nat} {w:World} {A:Option Addr} {n c:Nat} (h:w.cell? ⟨g,4,none⟩=some (.slice A n c)):lenAt g w=n:=by unfold lenAt;rw [h]
theorem sumB_succ (f:List Int→Nat) (n:Nat) (l:List Int) (k:Nat):sumB f n l (k+1)=sumB f n l k+(13+f ((l.drop (k*n)).take n)):=rfl
theorem LoopR.next {f:List Int→Nat} {wB w0 w:World} {g b r n k m2 c2:Nat} {c:Int} {l:List Int} {s:ByteArray} {v:Value} {A2:Option Addr} (hc:Chg (ES g) wB w) (h:WrAt w g c n true false v) (hr:w.heap[r]? =some (.cells #[.int .i64 0,.int .i64 0] 39 (0,0))) (hb:Below w0.heap.size w0 w) (hs:s.size=14+sumB f n l k) (hbl:BldAt wB.heap.size b s w)
  (hg:w0.heap.size≤g) (hgb:g≠b) (hrg:r≠g) (hk:k*n≤l.length) (hm:m2=(l.drop (k*n)).length) (hle:m2≤c2) (hrow:∀wx,Chg (ES g) wB wx→Lst wx .u32 A2 (l.drop (k*n))) (hnil:A2=none→c2=0):
  LoopR f wB w0 g b r c n l (w.setCell ⟨g,4,none⟩ (.slice A2 m2 c2)).drew∧lenAt g (w.setCell ⟨g,4,none⟩ (.slice A2 m2 c2)).drew=m2:=by
 have h4:=(h.set4 (.slice A2 m2 c2)).drewN 1;subst hm;have hc4:Chg (ES g) wB (w.setCell ⟨g,4,none⟩ (.slice A2 (l.drop (k*n)).length c2)).drew:=(hc.trans (es_g 4 _)).trans (Chg.drew _)
 refine ⟨⟨k,A2,c2,s,hk,⟨h4,hc4,hrow,hnil,hle⟩,?_,hs,below_drewN (hb.setCell (p:=⟨g,4,none⟩) hg _) 1,?_⟩,lenAt_of h4.c4⟩
 ·have hbl4:BldAt wB.heap.size b s (w.setCell ⟨g,4,none⟩ (.slice A2 (l.drop (k*n)).length c2)):=bld_chg hbl (es_g (g:=g) 4 _) (fun h=>hgb h.symm) (by
    intro i cs fz h1 hh;have:i=g:=hh;subst this;obtain ⟨x,y,z,h9⟩:=h.blk;have:=h1.symm.trans h9;simp at this)
  exact bld_keep hbl4 (below_drewN (Below.refl _ _) 1)
 ·exact (Below.heap_setCell _ _ _ _ hrg).trans hr
set_option maxRecDepth 100000 in
set_option maxHeartbeats 16000000 in
theorem add_calls {c:Int} {enc:List Int→List Int} {M:Nat} (hE:EncOK c enc M) {g n cap:Nat} {A:Option Addr} {l:List Int} {w0 w:World} (h:WrAt w g c n false false (.slice none 0 0)) (hb0:Below w0.heap.size w0 w) (hg:w0.heap.size≤g)
  (hL:∀wx,Below w0.heap.size w0 wx→Lst wx .u32 A l) (hr:Scal l) (hl:l.length≤M) (hnil:A=none→cap=0) (hn1:1≤n) (hn2:n≤65536):
  Calls Tryz.prog 32 #[.pointer (some ⟨g,0,none⟩),.slice A l.length cap] w (AddPost enc w0 g c n l):=by
 have htop:=hE.top;have HE:=Lib.hid hE;have H:=Lib.hid h;have HB0:=Lib.hid hb0;have HL:=Lib.hid hL;have HR:=Lib.hid hr;have HNil:=Lib.hid hnil;have c3:=h.c3;have c4:=h.c4;have f4:=h.fz 4;have hlt:=h.lt;have hba:Below w0.heap.size w0 (w.alloc (.cells #[.int .i64 0,.int .i64 0] 39)):=hb0.alloc hb0.size _;have HLa:=Lib.hid (hL _ hba)
 have ha:=h.below ((Below.refl _ w).alloc (Nat.le_refl _) (.cells #[.int .i64 0,.int .i64 0] 39))
 have HQ:=Lib.hid ha.c4;have HF:=Lib.hid (ha.fz 4)
 have Ha:=Lib.hid ha;have HGa:=Lib.hid (show g<w.heap.size+1 by omega)
 have HBa:=Lib.hid hba;clear hE h hb0 hL hr hnil hba ha;go_enter Tryz.func32,Tryz.ntmps32;go_wp2_with fail;refine (first_calls HLa.out HR.out (by omega)).mono ?_;rintro e w1 ⟨rfl,rfl⟩
 have HO:=Lib.hid (World.ownsRow_nil (w.alloc (.cells #[.int .i64 0,.int .i64 0] 39)) (w.heap.size+1) 31 1)
 go_upto_region 7 with (at_builtin;refine app_lst rfl rfl _ _ rfl (w.heap.size+1) _ [] rfl HO.out _ _ l rfl HLa.out HNil.out (by simp;omega) (by simp) ?_;intro A' c' w1 h1 h2 h3;rw [List.nil_append] at h1;rw [List.nil_append];have hb1:Below (w.heap.size+1) (w.alloc (.cells #[.int .i64 0,.int .i64 0] 39)) w1:=((Below.refl _ _).grown h2 (by simp) (fun k hk=>nomatch hk));have q4:w1.cell? ⟨g,4,none⟩=some (.slice none 0 0):=(hb1.cell (p:=⟨g,4,none⟩) HGa.out).trans HQ.out;have p4:w1.frozen? ⟨g,4,none⟩=false:=(hb1.frozen (p:=⟨g,4,none⟩) HGa.out).trans HF.out;have H1:=Lib.hid h1;have H3:=Lib.hid h3;have HB1:=Lib.hid hb1;clear h1 h2 h3 hb1)
 have hb2:Below w0.heap.size w0 (w1.setCell ⟨g,4,none⟩ (.slice A' l.length c')):=(HBa.out.trans (Below.mono HB1.out (by have:=HB0.out.size;omega))).setCell (p:=⟨g,4,none⟩) hg _;have hw2:=((Ha.out.keep (HB1.out.block g HGa.out)).set4 (.slice A' l.length c'))
 have hr2:(w1.setCell ⟨g,4,none⟩ (.slice A' l.length c')).heap[w.heap.size]? =some (.cells #[.int .i64 0,.int .i64 0] 39 (0,0)):=by
  rw [Below.heap_setCell _ _ _ _ (by show w.heap.size≠g;omega),HB1.out.block _ (Nat.lt_succ_self _)]
  exact heap_alloc_new _ _
 have hrow:∀wx,Chg (ES g) (w1.setCell ⟨g,4,none⟩ (.slice A' l.length c')) wx→Lst wx .u32 A' l:=fun wx hx=>own_row H1.out (by omega) ((es_g (g:=g) (w:=w1) 4 _).trans hx)
 have hle:l.length≤c':=own_le H1.out;obtain ⟨w2,hw2e⟩:∃w2,w2=w1.setCell ⟨g,4,none⟩ (.slice A' l.length c'):=⟨_,rfl⟩
 rw [←hw2e] at hb2 hw2 hr2 hrow;rw [←hw2e]
 have HIn:=Lib.hid (show RowIn w2 w2 g c n false A' c' l from ⟨hw2,Chg.refl _,hrow,H3.out,hle⟩)
 have HB2:=Lib.hid hb2;have HR2:=Lib.hid hr2;have HRG:=Lib.hid (show w.heap.size≠g∧w0.heap.size≤w.heap.size∧g<w2.heap.size by have:=HB0.out.size;exact ⟨by omega,by omega,hw2.lt⟩)
 obtain ⟨r,hr⟩:∃r,r=w.heap.size:=⟨_,rfl⟩
 rw [←hr] at HR2 HRG;rw [←hr]
 clear c3 c4 f4 hlt HB0 HL HNil H HLa HQ HF Ha HGa HBa HO q4 p4 H1 H3 HB1 hw2e hb2 hw2 hr2 hrow hr hle;obtain ⟨b,hb⟩:∃b,b=w2.heap.size:=⟨_,rfl⟩
 obtain ⟨w3,hw3⟩:∃w3,w3=w2.alloc (.cells #[.pointer none,.slice none 0 0] 70):=⟨_,rfl⟩
 have HBl:=Lib.hid (show BldAt w2.heap.size b ByteArray.empty w3 by rw [hw3,hb];exact bld_new _ _ (Nat.le_refl _))
 have hb23:Below w2.heap.size w2 w3:=by rw [hw3];exact (Below.refl _ _).alloc (Nat.le_refl _) _
 have h3:=HIn.out.wr.below hb23;have HBeg:=Lib.hid (begin_first h3)
 have HO3:=Lib.hid hb23;have hgb:g≠b:=by have:=HRG.out;omega
 have hrb:r≠b:=by have:=(Array.getElem?_eq_some_iff.1 HR2.out).1;omega
 have H3:=Lib.hid h3;go_upto_region 8 with fail;rw [←hw3,←hb]
 have HBd:=Lib.hid hb;clear hw3 hb hb23 h3;go_wp2_with fail;refine HBeg.out.mono ?_;rintro e w4 ⟨⟨s0,rfl,hs0⟩,h4,hc4⟩
 have hbl4:BldAt w2.heap.size b ByteArray.empty w4:=bld_chg HBl.out hc4 (fun h=>hgb h.symm) (by
  intro i cs fz h hh;have:i=g:=hh;subst this;obtain ⟨x,y,z,h9⟩:=H3.out.blk;have:=h.symm.trans h9;simp at this)
 have hc24:Chg (ES g) w2 w4:=(Chg.of_below HO3.out).trans hc4;have HWr:=Lib.hid (bld_write s0 hbl4 (by decide) (by omega) hc24.size)
 have HC4:=Lib.hid hc24;have H4:=Lib.hid h4;have HR4:=Lib.hid ((hc24.block r (Array.getElem?_eq_some_iff.1 HR2.out).1 (fun h=>HRG.out.1 h)).trans HR2.out)
 have HS0:=Lib.hid hs0;clear hc4 hbl4 hc24 h4 hs0 HBeg;go_wp2_with fail;refine HWr.out.mono ?_;rintro e w5 ⟨rfl,hb5,hbe5,hot5⟩
 rw [ByteArray.empty_append] at hb5;have hc5:=chg_bel HC4.out hbe5;have hloop:LoopR (fun x=>(enc x).length) w2 w0 g b r c n l w5:=⟨0,A',c',s0,by omega,by
  rw [Nat.zero_mul,List.drop_zero]
  exact ⟨wr_oth H4.out hot5 hgb,hc5,HIn.out.row,HIn.out.nil,HIn.out.le⟩,hb5,by rw [HS0.out];rfl,Chg.below HB2.out hc5 (fun i hi=>by have:i=g:=hi;omega),other_keep hot5 HR4.out hrb (by decide)⟩
 have HLoop:=Lib.hid hloop;clear hb5 hbe5 hot5 hc5 hloop HWr HC4 H4 HR4 HS0 HBl H3 HO3;go_wp2_with fail;go_loopw [31] (fun v wr=>LoopR (fun x=>(enc x).length) w2 w0 g b r c n l wr) (fun _ wr=>lenAt g wr)
 case atStart=>exact HLoop.out
 case round=>
  obtain ⟨k,A1,c1,s1,hk,hin,hbl,hs1,hbw,hr1⟩:=hrel;have c4:=hin.wr.c4;have c1':=hin.wr.c1;have f4:=hin.wr.fz 4;have hlen:=lenAt_of c4;have hle:=hin.le;have hdl:(l.drop (k*n)).length=l.length-k*n:=List.length_drop;obtain ⟨m,hm⟩:∃m,m=(l.drop (k*n)).length:=⟨_,rfl⟩
  rw [←hm] at c4 hlen hle hdl;have HIn:=Lib.hid hin;have HBl:=Lib.hid hbl;have HS1:=Lib.hid hs1;have HBw:=Lib.hid hbw;have HR1:=Lib.hid hr1;have HM:=Lib.hid hm;have HLen:=Lib.hid hlen;have HDl:=Lib.hid hdl;have HK:=Lib.hid hk;clear hin hbl hs1 hbw hr1 hm hlen hdl hk
  by_cases hlt:n≤m
  ·obtain ⟨a,rfl⟩:∃a,A1=some a:=by
    cases A1 with
    |none=>have:=HIn.out.nil rfl;omega
    |some a=>exact ⟨a,rfl⟩
   have hl1:(l.drop (k*n)).length≤M:=by rw [←HM.out,HDl.out];omega
   have HWb:=Lib.hid (fun (wz:World) (hz:Chg (ES g) wr wz) (hw:WrAt wz g c n true false (.slice (some a) (l.drop (k*n)).length c1))=>wb_at HE.out (HIn.out.at hz hw) (by rw [←HM.out];exact hlt) hn1 hn2 (HR.out.drop _) hl1)
   have hsz1:s1.size≤5000000:=by
    have:=sumB_len HE.out n HR.out hl k;have:=blk_le HK.out hn1;rw [HS1.out]
    omega
   have hen1:=HE.out.len ((l.drop (k*n)).take n) ((HR.out.drop _).take n) (by rw [List.length_take];omega)
   have HP:=Lib.hid (And.intro hsz1 hen1)
   clear hsz1 hen1 hl1;rw [←HM.out] at HWb;go_wp2_with fail;go_quiet (fail)
   go_wp2_with fail;have hwq:=(HIn.out.wr.drewN nq).drewN 1;have hbq:=bld_keep HBl.out (below_drewN (Below.refl wr.heap.size wr) nq)
   have hbq1:=bld_keep hbq (below_drewN (Below.refl (wr.drewN nq).heap.size (wr.drewN nq)) 1)
   rw [←HM.out] at hwq;have hcq:Chg (ES g) wr ((wr.drewN nq).drewN 1):=(Chg.drewN wr nq).trans (Chg.drewN _ 1)
   have HW1:=Lib.hid (HWb.out _ hcq hwq)
   have HBl1:=Lib.hid hbq1;have HWq:=Lib.hid hwq;have HCq:=Lib.hid hcq;clear hwq hbq hbq1 hcq;go_region_with (first
    |(go_at_call 59;refine HW1.out.mono ?_;rintro e w6 ⟨⟨s2,rfl,hs2⟩,h6,hc6⟩;have hbl6:BldAt w2.heap.size b s1 w6:=bld_chg HBl1.out hc6 (fun h=>hgb h.symm) (by
      intro i cs fz h hh;have:i=g:=hh;subst this;obtain ⟨x,y,z,h9⟩:=HWq.out.blk;have:=h.symm.trans h9;simp at this);have hp:=HP.out;have HWr:=Lib.hid (bld_write s2 hbl6 (by omega) (by omega) (HIn.out.chg.trans (HCq.out.trans hc6)).size);clear hp hbl6)
    |(go_at_call 35;refine HWr.out.mono ?_;rintro e w7 ⟨rfl,hb7,hbe7,hot7⟩))
   all_goals
    have hc7:Chg (ES g) w2 w7:=chg_bel (HIn.out.chg.trans (HCq.out.trans hc6)) hbe7;have h7:=wr_oth h6 hot7 hgb;have hr7:=other_keep hot7 ((hc6.block r (Array.getElem?_eq_some_iff.1 HR1.out).1 (fun h=>HRG.out.1 h)).trans HR1.out) hrb (by decide)
    have hbw7:Below w0.heap.size w0 w7:=(Chg.below HBw.out (HCq.out.trans hc6) (fun i hi=>by have:i=g:=hi;omega)).trans (Below.mono hbe7 HB2.out.size)
    have c4:=h7.c4;have c1':=h7.c1;have f4:=h7.fz 4;have hs7:(s1++s2).size=14+sumB (fun x=>(enc x).length) n l (k+1):=by rw [ByteArray.size_append,HS1.out,hs2,sumB_succ];omega
    have H7:=Lib.hid (And.intro hc7 (And.intro h7 (And.intro hr7 (And.intro hbw7 (And.intro hs7 hb7)))))
    clear hc7 h7 hr7 hbw7 hs7 hb7 hbe7 hot7 h6 hc6 hs2;have hds:(l.drop ((k+1)*n))=(l.drop (k*n)).drop n:=by rw [List.drop_drop,Nat.add_mul,Nat.one_mul]
    have hk1:(k+1)*n≤l.length:=by have:=HDl.out;have:=HK.out;rw [Nat.add_mul,Nat.one_mul];omega
    have hm2:m-n=(l.drop ((k+1)*n)).length:=by rw [hds,List.length_drop,←HM.out]
    have HX:=Lib.hid (And.intro hds (And.intro hk1 hm2))
    clear hds hk1 hm2
    by_cases hcn:c1=n
    ·have hmn:m=n:=by omega
     go_wp2_with fail;go_region_with fail
     all_goals
      go_wp2_with fail;obtain ⟨q1,q2,q3,q4,q5,q6⟩:=H7.out;obtain ⟨x1,x2,x3⟩:=HX.out;have x4:(l.drop ((k+1)*n)).length=0:=by omega
      have hnx:=LoopR.next (A2:=some a) (m2:=0) (c2:=0) q1 q2 q3 q4 q5 q6 hg hgb HRG.out.1 x2 x4.symm (Nat.le_refl 0) (fun wx hx=>by rw [List.length_eq_zero_iff.1 x4];exact Lst.nil _ _ _) (fun h=>nomatch h)
      have HNx:=Lib.hid hnx;clear q1 q2 q3 q4 q5 q6 x1 x2 x3 x4 hnx;go_roundw
      case rel=>exact HNx.out.1
      case measure=>rw [HNx.out.2,HLen.out];omega
    ·go_wp2_with fail
     go_region_with fail
     all_goals
      go_wp2_with fail;obtain ⟨q1,q2,q3,q4,q5,q6⟩:=H7.out;obtain ⟨x1,x2,x3⟩:=HX.out;have hnx:=LoopR.next (A2:=some (a.add n)) (c2:=c1-n) q1 q2 q3 q4 q5 q6 hg hgb HRG.out.1 x2 x3 (by omega) (fun wx hx=>by rw [x1];exact Lst.drop (HIn.out.row wx hx) n) (fun h=>nomatch h)
      have HNx:=Lib.hid hnx;clear q1 q2 q3 q4 q5 q6 x1 x2 x3 hnx;go_roundw
      case rel=>exact HNx.out.1
      case measure=>rw [HNx.out.2,HLen.out];omega
  ·go_wp2_with fail
   go_quiet (fail)
   go_wp2_with fail;have hbq:Below wr.heap.size wr (wr.drewN nq):=below_drewN (Below.refl _ _) nq;have hcl:Calls Tryz.prog 60 #[.slice A1 m c1] (wr.drewN nq) (ClonePost (wr.drewN nq) (l.drop (k*n))):=by
    rw [HM.out]
    exact clone_calls (HIn.out.row _ (HIn.out.chg.trans (Chg.drewN _ _))) HIn.out.nil (by rw [←HM.out,HDl.out];omega)
   have HRq:=Lib.hid (show r<(wr.drewN nq).heap.size from (Array.getElem?_eq_some_iff.1 HR1.out).1)
   have HQ:=Lib.hid (And.intro (HIn.out.wr.drewN nq) (And.intro (bld_keep HBl.out hbq) (And.intro (HIn.out.chg.trans (Chg.drewN wr nq)) (And.intro (show (wr.drewN nq).heap[r]? =_ from HR1.out) (show Below w0.heap.size w0 (wr.drewN nq) from below_drewN HBw.out nq)))))
   generalize wr.drewN nq=wq at hcl HQ HRq ⊢;have HCl:=Lib.hid hcl;clear hcl hbq c4 c1' f4 hle;refine HCl.out.mono ?_;rintro e w6 ⟨A2,c2,rfl,ho6,hn6,hb6⟩
   obtain ⟨q1,q2,q3,q4,q5⟩:=HQ.out;have h6:=q1.below hb6;have f4:=h6.fz 4;have d4:=h6.c4;have h7:=h6.set4 (.slice A2 (l.drop (k*n)).length c2)
   have hbl6:=bld_keep q2 hb6;have hbl7:BldAt w2.heap.size b s1 (w6.setCell ⟨g,4,none⟩ (.slice A2 (l.drop (k*n)).length c2)):=bld_chg hbl6 (es_g (g:=g) 4 _) (fun h=>hgb h.symm) (by
    intro i cs fz h hh;have:i=g:=hh;subst this;obtain ⟨x,y,z,h9⟩:=h6.blk;have:=h.symm.trans h9;simp at this)
   have hc7:Chg (ES g) w2 (w6.setCell ⟨g,4,none⟩ (.slice A2 (l.drop (k*n)).length c2)):=(q3.trans (Chg.of_below hb6)).trans (es_g 4 _)
   have hr7:(w6.setCell ⟨g,4,none⟩ (.slice A2 (l.drop (k*n)).length c2)).heap[r]? =some (.cells #[.int .i64 0,.int .i64 0] 39 (0,0)):=by
    rw [Below.heap_setCell _ _ _ _ (fun h=>HRG.out.1 h),hb6.block r (Array.getElem?_eq_some_iff.1 q4).1]
    exact q4
   have hb7:Below w0.heap.size w0 (w6.setCell ⟨g,4,none⟩ (.slice A2 (l.drop (k*n)).length c2)):=(q5.trans (Below.mono hb6 q5.size)).setCell (p:=⟨g,4,none⟩) hg _;have hgq:g<wq.heap.size:=q1.lt;have hbq:b<wq.heap.size:=by
    have:b<(wq).heap.size:=by
     rcases q2 with q2|q2
     ·obtain ⟨_,_,q2,_⟩:=q2;exact (Array.getElem?_eq_some_iff.1 q2).1
     ·obtain ⟨_,_,q2,_⟩:=q2;exact (Array.getElem?_eq_some_iff.1 q2).1
    exact this
   have ho7:=Out.own_chg ho6 (es_g (g:=g) (w:=w6) 4 (.slice A2 (l.drop (k*n)).length c2)) (fun i hi hh=>by
    have:=(ho6.lt i hi).1;have:i=g:=hh;omega)
   have hle7:=own_le ho6;rw [←HM.out]
   rw [←HM.out] at h7 hbl7 hc7 hr7 hb7 hle7 ho7;have H7:=Lib.hid (And.intro h7 (And.intro hc7 (And.intro hr7 (And.intro hb7 (And.intro (And.intro ho7 (And.intro hgq hbq)) (And.intro hn6 hle7))))))
   have HSt:=Lib.hid (bld_string hbl7 hc7.size)
   clear ho6 hn6 hb6 q1 q2 q3 q4 q5 h6 h7 hbl6 hbl7 hc7 hr7 hb7 hgq hbq ho7 hle7 HQ HCl;go_wp2_with fail;refine HSt.out.mono ?_;rintro e w8 ⟨rfl,hb8,hot8⟩
   obtain ⟨h7,hc7,hr7,hb7,⟨ho7,hgq,hbq⟩,hn7,hle7⟩:=H7.out;have h8:=wr_oth h7 hot8 hgb;have hr8:=other_keep hot8 hr7 hrb (by decide)
   have ho8:=own_oth ho7 hot8 hbq;have hrq:r<wq.heap.size:=by have:=HRq.out;omega
   have ho9:=Out.own_chg (Out.own_chg ho8 (es_g (g:=r) (w:=w8) 0 (.int .i64 0)) (fun i hi hh=>by
    have:=(ho8.lt i hi).1;have:i=r:=hh;omega)) (es_g (g:=r) 1 (.int .i64 0)) (fun i hi hh=>by
    have:=(ho8.lt i hi).1;have:i=r:=hh;omega)
   have hro8:∀wx,Chg (ES g) ((w8.setCell ⟨r,0,none⟩ (.int .i64 0)).setCell ⟨r,1,none⟩ (.int .i64 0)) wx→Lst wx .u32 A2 (l.drop (k*n)):=fun wx hx=>own_row ho9 hgq hx
   have hb8':Below w0.heap.size w0 w8:=hb7.trans (Below.mono hb8 HB2.out.size)
   have r0:w8.cell? ⟨r,0,none⟩=some (.int .i64 0):=by rw [cell_of hr8];rfl
   have r1:w8.cell? ⟨r,1,none⟩=some (.int .i64 0):=by rw [cell_of hr8];rfl
   have fr:=frozen_of hr8;have H8:=Lib.hid (And.intro h8 (And.intro hr8 (And.intro hro8 (And.intro hb8' (And.intro hn7 hle7)))))
   clear h7 hc7 hr7 hb7 ho7 hgq hbq hn7 hle7 h8 hr8 ho8 ho9 hrq hro8 hb8' hb8 hot8;go_wp2_with fail;have hHM:=HM.out;refine bodyPost_ret (v:=.tuple #[.string s1,.agg #[.int .i64 0,.int .i64 0]]) (by
    have e0:((w8.setCell ⟨r,0,none⟩ (.int .i64 0)).setCell ⟨r,1,none⟩ (.int .i64 0)).cell? ⟨r,0,none⟩=some (.int .i64 0):=by rw [World.cell?_setCell_other _ _ _ _ (by simp),World.cell?_setCell_same _ _ _ r0]
    have e1:((w8.setCell ⟨r,0,none⟩ (.int .i64 0)).setCell ⟨r,1,none⟩ (.int .i64 0)).cell? ⟨r,1,none⟩=some (.int .i64 0):=by rw [World.cell?_setCell_same (u:=.int .i64 0) _ _ _ (by rw [World.cell?_setCell_other _ _ _ _ (by simp)];exact r1)]
    simp [results,Tryz.results32,go_sem,e0,e1]) rfl ?_
   obtain ⟨h8,hr8,hro8,hb8,hn7,hle7⟩:=H8.out;have hDL:=HDl.out;have hKK:=HK.out;refine ⟨k,A2,c2,s1,HK.out,by omega,rfl,HS1.out,?_,hro8,hn7,by rw [←hHM];exact hle7,(hb8.setCell (p:=⟨r,0,none⟩) HRG.out.2.1 _).setCell (p:=⟨r,1,none⟩) HRG.out.2.1 _⟩
   rw [←hHM]
   exact h8.keep ((Below.heap_setCell _ _ _ _ (fun h=>HRG.out.1 h.symm)).trans (Below.heap_setCell _ _ _ _ (fun h=>HRG.out.1 h.symm)))
end Dcd
end Go.Proofs.YtooiooledeblmaaGreat
