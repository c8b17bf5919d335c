/- Punycode's text of a list: the walk. What Encode needs of an encoder that tells some bytes when it is fed, and the rest behind its end. codec.Encode by the encoder puny.Encoder. The windows: new ones, which one holds a number, the tables. -/
import Derived.Test.YtooiooledeblmaaGreatZ7
set_option linter.unusedVariables false
set_option linter.unusedSimpArgs false
namespace Go.Proofs.YtooiooledeblmaaGreat
namespace Pun
open Go.RowKit Go.Sort Win Stp Lst Out Srt
def MsAt (w:World) (A:Option Addr) (xs:List Int):Prop:=
 (A=none∧xs=[])∨∃g cur,A=some ⟨g,0,none⟩∧w.heap[g]? =some (.cells cur 31 (0,0))∧Lst w .u32 A xs
theorem MsAt.lst {w:World} {A:Option Addr} {xs:List Int} (h:MsAt w A xs):Lst w .u32 A xs:=by
 rcases h with ⟨_,rfl⟩|⟨_,_,_,_,h⟩
 ·exact Lst.nil _ _ _
 ·exact h
theorem MsAt.keep {w w':World} {A:Option Addr} {xs:List Int} (h:MsAt w A xs) (hk:∀g cur,A=some ⟨g,0,none⟩→w.heap[g]? =some (.cells cur 31 (0,0))→w'.heap[g]? =w.heap[g]?):MsAt w' A xs:=by
 rcases h with h|⟨g,cur,rfl,hg,h⟩
 ·exact .inl h
 ·have e:=hk g cur rfl hg
  refine .inr ⟨g,cur,rfl,e.trans hg,fun j hj=>?_⟩
  obtain ⟨a,ha,hc⟩:=h j hj;injection ha with ha
  subst ha;refine ⟨_,rfl,?_⟩
  rw [←hc]
  have eb:(Addr.add ⟨g,0,none⟩ j).block=g:=by unfold Addr.add;split <;>rfl
  have e2:w'.heap[(Addr.add ⟨g,0,none⟩ j).block]? =w.heap[(Addr.add ⟨g,0,none⟩ j).block]? :=by rw [eb];exact e
  unfold World.cell?;rw [e2]
theorem MsAt.below {w w':World} {A:Option Addr} {xs:List Int} (h:MsAt w A xs) (hb:Below w.heap.size w w'):MsAt w' A xs:=
 h.keep fun g cur _ hg=>hb.block g (Array.getElem?_eq_some_iff.1 hg).1
theorem oth_u32 {b g:Nat} {cur:Array Value} {s:ByteArray} {B:Nat} {w w':World} (ho:Oth b w w') (hb:BldAt B b s w) (hg:w.heap[g]? =some (.cells cur 31 (0,0))):w'.heap[g]? =w.heap[g]? :=by
 rw [hg]
 refine ho g _ hg ?_ (by intro c fz h;injection h with h1 h2;cases h2)
 intro hh;injection hh with hh
 subst hh;rcases hb with hb|hb
 ·obtain ⟨_,v,h2,_⟩:=hb
  rw [hg] at h2;injection h2 with h2
  injection h2 with h1 h2
  cases h2
 ·obtain ⟨_,v,h2,_⟩:=hb
  rw [hg] at h2;injection h2 with h2
  injection h2 with h1 h2
  cases h2
theorem MsAt.oth {w w':World} {A:Option Addr} {xs:List Int} {B b:Nat} {s:ByteArray} (h:MsAt w A xs) (hb:BldAt B b s w) (ho:Oth b w w'):MsAt w' A xs:=
 h.keep fun g cur _ hg=>oth_u32 ho hb hg
theorem own_oth {w w':World} {base b B n:Nat} {s:ByteArray} {v:Value} {xs:List Value} (h:w.ownsRow base 31 1 v n xs) (hb:BldAt B b s w) (ho:Oth b w w'):w'.ownsRow base 31 1 v n xs:=by
 obtain ⟨a1,a2⟩:=h;refine ⟨a1,?_⟩
 rcases a2 with a2|⟨g',cap,cur,hv,hb',hh,r⟩
 ·exact .inl a2
 ·exact .inr ⟨g',cap,cur,hv,hb',(oth_u32 ho hb hh).trans hh,r⟩
theorem bld_row {B b base n:Nat} {s:ByteArray} {w w':World} {v:Value} {xs:List Value} (h:BldAt B b s w) (ho:w.ownsRow base 31 1 v n xs) (hg:w.grownBy w' v.ownBlock):BldAt B b s w':=by
 have hk:∀i,v.ownBlock=some i→∃cur,w.heap[i]? =some (.cells cur 31 (0,0)):=by
  intro i hi;rcases ho.2 with ⟨hv,_⟩|⟨g',cap,cur,hv,_,hh,_⟩
  ·rw [hv] at hi;cases hi
  ·rw [hv] at hi
   simp [Value.ownBlock] at hi;subst hi;exact ⟨cur,hh⟩
 refine bld_chg h (chg_grown hg) (fun hi=>?_) (fun i cs fz hc hi=>?_)
 ·obtain ⟨cur,hc⟩:=hk b hi
  rcases h with h|h
  ·obtain ⟨_,v,h2,_⟩:=h
   rw [hc] at h2;injection h2 with h2
   injection h2 with h1 h2
   cases h2
  ·obtain ⟨_,v,h2,_⟩:=h
   rw [hc] at h2;injection h2 with h2
   injection h2 with h1 h2
   cases h2
 ·obtain ⟨cur,hc2⟩:=hk i hi
  rw [hc] at hc2;injection hc2 with hc2
  injection hc2 with h1 h2
  cases h2
theorem bld_on {B b g q:Nat} {s:ByteArray} {w w':World} {d:Array Int} {cur:Array Value} (h:BldAt B b s w) (hg:w.heap[g]? =some (.cells cur 31 (0,0))) (ho:On w g q d w'):BldAt B b s w':=by
 refine bld_chg h ho.chg (fun hi=>?_) (fun i cs fz hc hi=>?_)
 ·subst hi
  rcases h with h|h
  ·obtain ⟨_,v,h2,_⟩:=h
   rw [hg] at h2;injection h2 with h2
   injection h2 with h1 h2
   cases h2
  ·obtain ⟨_,v,h2,_⟩:=h
   rw [hg] at h2;injection h2 with h2
   injection h2 with h1 h2
   cases h2
 ·subst hi
  rw [hc] at hg;injection hg with hg
  injection hg with h1 h2
  cases h2
theorem own_on {w:World} {B n:Nat} {v:Value} {xs:List Int} (h:w.ownsRow B 31 1 v n (u32s xs)) (hn:n=xs.length) (h0:0<n):
  ∃g c cur,v= .slice (some ⟨g,0,none⟩) n c∧n≤c∧B≤g∧w.heap[g]? =some (.cells cur 31 (0,0))∧On w g 0 xs.toArray w:=by
 have hcells:=fun g=>h.cells (g:=g)
 rcases h.2 with ⟨_,h1⟩|⟨g,c,cur,hv,hb,hg,hc,_⟩
 ·omega
 ·subst hv
  refine ⟨g,c,cur,rfl,hc,hb,hg,fun t ht=>?_,fun t _=>frozen_of hg _,Chg.refl _,(Array.getElem?_eq_some_iff.1 hg).1,Typ.refl _ _⟩
  have ht2:t<xs.length:=by simpa using ht
  have:=hcells g rfl t (.int .u32 xs[t]) (by unfold u32s;rw [List.getElem?_map,List.getElem?_eq_getElem ht2];rfl)
  rw [Addr.add_lit] at this;rw [this,getElem!_pos xs.toArray t ht]
  simp
theorem ms_nil {l:List Int} (h:high l=[]):ms l=[]:=by
 apply List.eq_nil_iff_forall_not_mem.2;intro x hx;have:=(ms_mem l x).1 hx;have h2:x∈high l:=by unfold high;rw [List.mem_filter];simpa using this
 rw [h] at h2
 cases h2
theorem low_snoc (l:List Int) (c:Int):low (l++[c])=low l++if c<128 then [c] else []:=by
 unfold low;rw [List.filter_append]
 by_cases h:c<128 <;>simp [h]
theorem high_snoc (l:List Int) (c:Int):high (l++[c])=high l++if c<128 then [] else [c]:=by
 unfold high;rw [List.filter_append]
 by_cases h:c<128 <;>simp [h]
theorem low_len (l:List Int):(low l).length≤l.length:=List.length_filter_le _ _
theorem high_len (l:List Int):(high l).length≤l.length:=List.length_filter_le _ _
def TxRel (w:World) (B b:Nat) (l:List Int) (v18 v4:Value) (wr:World):Prop:=
 ∃k:Nat,k≤l.length∧v18= .int .i64 k∧wr.ownsRow B 31 1 v4 (high (l.take k)).length (u32s (high (l.take k)))∧(high (l.take k)=[]→v4= .slice none 0 0)∧BldAt B b (strOfNums (low (l.take k))) wr∧Below B w wr
def TxRel2 (w:World) (B g st:Nat) (l:List Int) (v7 v8 v9 v10 v42:Value) (wr:World):Prop:=
 ∃(i:Nat) (n:Int) (s:PS),i≤(ms l).length∧v42= .int .i64 i∧v9= .int .u32 n∧v8= .int .u64 s.d∧v10= .int .i64 s.b∧v7= .int .i64 (s.k:Nat)∧BldAt B B (strOfNums s.o) wr∧Below B w wr∧MsAt wr (some ⟨g,0,none⟩) (ms l)∧
  PInv l n s ((ms l).drop i)∧(((ms l).drop i).foldl (pout1 l st) (n,s)).2.o=textP l
def TxRel3 (w:World) (B g st:Nat) (l:List Int) (m:Int) (SE:PS) (v7 v8 v10 v59:Value) (wr:World):Prop:=
 ∃(j:Nat) (s:PS),j≤l.length∧v59= .int .i64 j∧v8= .int .u64 s.d∧v10= .int .i64 s.b∧v7= .int .i64 (s.k:Nat)∧BldAt B B (strOfNums s.o) wr∧Below B w wr∧MsAt wr (some ⟨g,0,none⟩) (ms l)∧
  PIn l m j s∧(l.drop j).foldl (pin1 m st) s=SE
theorem foldl_getD {α:Type} (f:α→Int→α) (xs:List Int) (j:Nat) (h:j<xs.length) (s:α):(xs.drop j).foldl f s=(xs.drop (j+1)).foldl f (f s (xs.getD j 0)):=by
 rw [drop_cons h,List.foldl_cons]
theorem cast_beq (a b:Nat):((a:Int)==(b:Int))=(a==b):=by
 rw [Bool.eq_iff_iff]
 simp;omega
def TxPost (l:List Int) (w:World) (e:Ending) (w':World):Prop:=e= .returned (.string (strOfNums (textP l)))∧Below w.heap.size w w'
set_option maxHeartbeats 8000000 in
set_option maxRecDepth 1000000 in
theorem text_calls {A:Option Addr} {cap:Nat} {l:List Int} {w:World} (hL:Lst w .u32 A l) (hl:l.length≤60) (hs:∀x∈l,0≤x∧x≤1114111):
  Calls Tryz.prog 161 #[.slice A l.length cap] w (TxPost l w):=by
 obtain ⟨i0,hi,hz0,hz1,hz2⟩:=info_parts info_u32;have HN:Hid (i0.zero=some (.int .u32 0)∧i0.size=1∧i0.bytes=4∧Tryz.prog.info? 31=some i0):=⟨hz0,hz1,hz2,hi⟩
 obtain ⟨B,hB⟩:∃B,B=w.heap.size:=⟨_,rfl⟩
 have hbn:=bld_new w.heap.size w (Nat.le_refl _)
 rw [←hB] at hbn;have HBn:=Lib.hid hbn;have HL:=Lib.hid hL;have HS:=Lib.hid hs;have HB:=Lib.hid hB;have hbl:Below B w (w.alloc (.cells #[.pointer none,.slice none 0 0] 70)):=by rw [hB];exact (Below.refl _ _).alloc (Nat.le_refl _) _
 have HBl:=Lib.hid hbl;clear hz0 hz1 hz2 hi hbn hL hs hbl;go_enter Tryz.func161,Tryz.ntmps161;go_wp2_with fail;rw [←hB]
 generalize w.alloc (.cells #[.pointer none,.slice none 0 0] 70)=w0 at HBn HBl ⊢;clear hB;go_loopw [18,4] (fun v18 v4 wr=>TxRel w B B l v18 v4 wr) (fun v18 _ _=>l.length-(intOf v18).toNat)
 case atStart=>exact ⟨0,Nat.zero_le _,rfl,World.ownsRow_nil _ _ _ _,fun _=>rfl,HBn.out,HBl.out⟩
 case round=>
  obtain ⟨k,hk,rfl,hown,hnil,hbld,hbel⟩:=hrel;have HO:=Lib.hid hown;have HNil:=Lib.hid hnil;have HBld:=Lib.hid hbld;have HBel:=Lib.hid hbel;have hBw:B≤wr.heap.size:=by rw [HB.out];exact hbel.size
  clear hown hnil hbld hbel
  by_cases hlt:k<l.length
  ·obtain ⟨a,ha,hc⟩:=(HL.out.below (HB.out▸HBel.out)) k hlt
   subst ha;have hx:=HS.out (l.getD k 0) (by rw [List.getD_eq_getElem?_getD,List.getElem?_eq_getElem hlt];exact List.getElem_mem _)
   have htk:l.take (k+1)=l.take k++[l.getD k 0]:=by rw [List.take_succ_eq_append_getElem hlt,List.getD_eq_getElem?_getD,List.getElem?_eq_getElem hlt];rfl
   have hlo:=low_snoc (l.take k) (l.getD k 0)
   have hhi:=high_snoc (l.take k) (l.getD k 0)
   rw [←htk] at hlo hhi;clear htk;generalize l.getD k 0=x at hc hx hlo hhi;obtain ⟨hx0,hx1⟩:=hx;have hll:=low_len (l.take k)
   have hhl:=high_len (l.take k)
   rw [List.length_take] at hll hhl;have hsz:=str_size (low (l.take k))
   have HSz:=Lib.hid hsz
   by_cases h128:x<128
   ·rw [if_pos h128] at hlo hhi
    rw [List.append_nil] at hhi;have HLo:=Lib.hid hlo;have HHi:=Lib.hid hhi;have hbyte:=bld_byte (b:=B) (B:=B) (s:=strOfNums (low (l.take k))) x (w:=wr) HBld.out (by rw [HSz.out];omega) hx0 (by omega) hBw;have HBy:=Lib.hid hbyte;clear hlo hhi hbyte hsz;go_wp2_with (go_at_call 162;refine HBy.out.mono ?_;rintro e w1 ⟨rfl,h1,h2,h3⟩)
    go_roundw
    case rel=>
     refine ⟨k+1,hlt,by go_num,?_,?_,?_,HBel.out.trans h2⟩
     ·rw [HHi.out];exact own_oth HO.out HBld.out h3
     ·rw [HHi.out];exact HNil.out
     ·rw [HLo.out,←str_append];exact h1
    case measure=>simp [intOf];omega
   ·rw [if_neg h128] at hlo hhi
    rw [List.append_nil] at hlo;have HLo:=Lib.hid hlo;have HHi:=Lib.hid hhi;have hlx:Lst (wr.alloc (.cells #[.int .u32 x] 31)) .u32 (some ⟨wr.heap.size,0,none⟩) [x]:=fun j hj=>by
     obtain rfl:j=0:=by simpa using hj
     refine ⟨_,rfl,?_⟩
     show World.cell? _ ⟨wr.heap.size,0+0,none⟩=_
     rw [cell_of (heap_alloc_new _ _)]
     rfl
    have hba:Below wr.heap.size wr (wr.alloc (.cells #[.int .u32 x] 31)):=(Below.refl _ _).alloc (Nat.le_refl _) _;have HLx:=Lib.hid hlx;have HOa:=Lib.hid (HO.out.alloc (.cells #[.int .u32 x] 31))
    have HBa:=Lib.hid (bld_keep HBld.out hba)
    have HBel2:=Lib.hid (HBel.out.alloc hBw (.cells #[.int .u32 x] 31))
    have hBw2:B≤(wr.alloc (.cells #[.int .u32 x] 31)).heap.size:=by simp;omega
    have HBw2:=Lib.hid hBw2;clear hlo hhi hsz hlx hba hBw2;go_wp2_with (at_builtin;refine app_lst rfl rfl _ _ rfl B _ (high (l.take k)) rfl HOa.out _ _ [x] rfl HLx.out (fun h=>nomatch h) (by simp;omega) HBw2.out ?_;intro A' c' w3 h1 h2 h3;have H1:=Lib.hid h1;have H2:=Lib.hid h2;have H3:=Lib.hid h3;clear h1 h2 h3)
    go_roundw
    case rel=>
     refine ⟨k+1,hlt,by go_num,?_,?_,?_,HBel2.out.grown H2.out HBw2.out (fun i hi=>(HOa.out.lt i hi).1)⟩
     ·rw [HHi.out]
      have h:=H1.out;rw [show Value.slice A' (high (l.take k)++[x]).length c'=Value.slice A' ((high (l.take k)).length+1) c' by simp] at h;exact h
     ·rw [HHi.out];intro h;simp at h
     ·rw [HLo.out];exact bld_row HBa.out HOa.out H2.out
    case measure=>simp [intOf];omega
  ·obtain rfl:k=l.length:=by omega
   have ho:=HO.out;have hn:=HNil.out;have hbd:=HBld.out;rw [List.take_length] at ho hn hbd;have hlo:=low_len l;have hhi:=high_len l;have hsz:=str_size (low l)
   have hln:=bld_len hbd;rw [hsz] at hln;have hhy:=bld_byte (b:=B) (B:=B) (s:=strOfNums (low l)) 45 (w:=wr) hbd (by omega) (by decide) (by decide) hBw;have HO2:=Lib.hid ho;have HNil2:=Lib.hid hn;have HBd:=Lib.hid hbd;have HLn:=Lib.hid hln;have HHy:=Lib.hid hhy;obtain ⟨st,hst⟩:∃st,st=(low l).length:=⟨_,rfl⟩
   rw [←hst] at HLn hlo;have HSt:=Lib.hid hst;clear ho hn hbd hsz hln hhy hst HO HNil HBld;go_upto_if 34 with (go_at_call 163;refine HLn.out.mono ?_;rintro e w1 ⟨rfl,rfl⟩)
   go_cut [7] from 34 to 35 (fun v wx=>v= .int .i64 (st:Nat)∧BldAt B B (strOfNums (start0 l)) wx∧Below B w wx∧wx.ownsRow B 31 1 u4 (high l).length (u32s (high l)))
   case first=>
    by_cases h0:0<st
    ·have hs0:start0 l=low l++[45]:=by unfold start0;rw [←HSt.out,if_pos h0]
     have HS0:=Lib.hid hs0;clear hs0;go_wp2_with (go_at_call 162;refine HHy.out.mono ?_;rintro e w1 ⟨rfl,h1,h2,h3⟩)
     go_meet;refine ⟨rfl,?_,HBel.out.trans h2,own_oth HO2.out HBd.out h3⟩
     rw [HS0.out,←str_append]
     exact h1
    ·have hs0:start0 l=low l:=by unfold start0;rw [←HSt.out,if_neg h0,List.append_nil]
     have HS0:=Lib.hid hs0;clear hs0;go_wp2_with fail;go_meet;refine ⟨rfl,?_,HBel.out,HO2.out⟩
     rw [HS0.out]
     exact HBd.out
   case rest=>
    obtain ⟨rfl,hbd,hbel,hown⟩:=hcut;have hBc:B≤wc.heap.size:=by rw [HB.out];exact hbel.size
    have HBd2:=Lib.hid hbd;have HBel2:=Lib.hid hbel;have HO3:=Lib.hid hown;clear hbd hbel hown HBd HBel HO2 HHy HLn
    by_cases hh:high l=[]
    ·have hu:=HNil2.out hh
     subst hu;have htx:textP l=start0 l:=by unfold textP;rw [ms_nil hh];rfl
     have HTx:=Lib.hid htx;clear hh htx hhi HNil2;go_wp2_with (first|(go_at_call 164;refine (sort_nil _).mono ?_;rintro e w1 ⟨rfl,rfl⟩)|(go_at_call 165;refine (compact_nil _).mono ?_;rintro e w1 ⟨rfl,rfl⟩))
     go_loopw [7,8,9,10,42] (fun v7 v8 v9 v10 v42 wr=>v42= .int .i64 0∧BldAt B B (strOfNums (start0 l)) wr∧Below B w wr) (fun _ _ _ _ _ _=>0)
     case atStart=>exact ⟨rfl,HBd2.out,HBel2.out⟩
     case round=>
      obtain ⟨rfl,hbd,hbel⟩:=hrel;have hst2:=bld_string hbd (by rw [HB.out];exact hbel.size)
      have HBel3:=Lib.hid hbel;have HSt2:=Lib.hid hst2;clear hbd hbel hst2 HBd2 HBel2;go_wp2_with (go_at_call 36;refine HSt2.out.mono ?_;rintro e w1 ⟨rfl,h1,h2⟩)
      go_ret;refine ⟨by rw [HTx.out];rfl,?_⟩
      rw [←HB.out]
      exact HBel3.out.trans h1
    ·have hpos:0<(high l).length:=List.length_pos_iff.2 hh
     obtain ⟨g,c,cur,rfl,hnc,hBg,hg,hon⟩:=own_on HO3.out rfl hpos;have hsc:=sort_calls g 0 (high l).length c (high l).toArray wc (by simp) (by omega) hon;have hsz:(Go.Sort.sort ltInt (high l).toArray).size=(high l).length:=by
      unfold Go.Sort.sort;rw [pdq_size _ _ _ _ _ _ _ (Nat.le_refl _)]
      simp
     have hcc:=fun (wy:World) (k:On wy g 0 (Go.Sort.sort ltInt (high l).toArray) wy)=>compact_calls g 0 (high l).length c (Go.Sort.sort ltInt (high l).toArray) wy hsz (by omega) hnc k
     unfold CmpPost at hcc;rw [ms_eq l] at hcc;generalize Go.Sort.sort ltInt (high l).toArray=d at hsc hsz hcc;have HSc:=Lib.hid hsc;have HCc:=Lib.hid hcc;have HG:=Lib.hid hg;clear hsc hcc hg hon hh HO3 HNil2;go_upto_region 15 with (go_at_call 164;refine HSc.out.mono ?_;rintro e w1 ⟨rfl,k1⟩)
     obtain ⟨cur1,hg1⟩:=k1.typ _ _ _ HG.out;have hbd1:=bld_on HBd2.out HG.out k1;have hbel1:Below B w w1:=by
      have h:=HBel2.out;rw [HB.out] at h ⊢;exact Chg.below h k1.chg (fun i hi=>by have hi:i=g:=hi;rw [←HB.out];omega)
     have HK1:=Lib.hid k1.refl;have HG1:=Lib.hid hg1;have HBd3:=Lib.hid hbd1;have HBel3:=Lib.hid hbel1;clear hg1 hbd1 hbel1 k1 HBd2 HBel2 HG HSc;go_wp2_with (go_at_call 165;refine (HCc.out _ HK1.out).mono ?_;rintro e w2 ⟨d',rfl,hs',k2,hln,hpre⟩)
     obtain ⟨cur2,hg2⟩:=k2.typ _ _ _ HG1.out;have hbd2:=bld_on HBd3.out HG1.out k2;have hbel2:Below B w w2:=by
      have h:=HBel3.out;rw [HB.out] at h ⊢;exact Chg.below h k2.chg (fun i hi=>by have hi:i=g:=hi;rw [←HB.out];omega)
     have hms:MsAt w2 (some ⟨g,0,none⟩) (ms l):=by
      refine .inr ⟨g,cur2,rfl,hg2,fun j hj=>⟨_,rfl,?_⟩⟩
      rw [Addr.add_lit,k2.cell j (by omega),List.getD_eq_getElem?_getD,hpre j hj]
      rfl
     have HMs:=Lib.hid hms;have HBd4:=Lib.hid hbd2;have HBel4:=Lib.hid hbel2;have hms60:(ms l).length≤60:=by omega
     clear hg2 hbd2 hbel2 hms k2 hs' hpre HBd3 HBel3 HG1 HK1 HCc hsz;go_loopw [7,8,9,10,42] (fun v7 v8 v9 v10 v42 wr=>TxRel2 w B g st l v7 v8 v9 v10 v42 wr) (fun _ _ _ _ v42 _=>(ms l).length-(intOf v42).toNat)
     case atStart=>
      refine ⟨0,128,⟨0,72,st,start0 l⟩,Nat.zero_le _,rfl,rfl,rfl,rfl,rfl,HBd4.out,HBel4.out,HMs.out,?_,?_⟩
      ·have:=pinv_start l (fun x hx=>(HS.out x hx).2)
       rw [←HSt.out] at this;exact this
      ·unfold textP
       rw [←HSt.out]
       rfl
     case round=>
      clear HMs HBd4 HBel4;obtain ⟨i,n,s,hi,rfl,rfl,rfl,rfl,rfl,hbd,hbel,hms,hinv,hR⟩:=hrel;obtain ⟨sd,sb,sk,so⟩:=s;have HBd5:=Lib.hid hbd;have HBel5:=Lib.hid hbel;have HMs:=Lib.hid hms;have HInv:=Lib.hid hinv;have HR:=Lib.hid hR;clear hbd hbel hms hinv hR
      by_cases hlt:i<(ms l).length
      ·obtain ⟨a,ha,hc⟩:=HMs.out.lst i hlt
       injection ha with ha
       subst ha;have hR:=HR.out;rw [foldl_getD _ _ _ hlt] at hR;have hinv:=HInv.out;rw [drop_cons hlt] at hinv;have hm0:=hinv.lo _ List.mem_cons_self;have hm1:=hinv.hi _ List.mem_cons_self;generalize (ms l).getD i 0=m at hc hR hinv hm0 hm1;have hd0:=hinv.d0;have hd1:=hinv.d1;have hk1:=hinv.k1;have hn0:=hinv.n0;have hcl:=cnt_le l n
       dsimp only at hd0 hd1 hk1
       have hsk:sk≤60:=by omega
       obtain ⟨P,hP⟩:∃P,P=(m-n)*((sk:Int)+1):=⟨_,rfl⟩
       have hP1:P≤(m-n)*61:=by rw [hP];exact Int.mul_le_mul_of_nonneg_left (by omega) (by omega)
       have hP0:0≤P:=by rw [hP];exact Int.mul_nonneg (by omega) (by omega)
       have hst:=pin_start hl hinv
       dsimp only at hst
       unfold pout1 at hR
       dsimp only at hR
       rw [←hP] at hst hR;obtain ⟨SE,hSE⟩:∃SE,SE=l.foldl (pin1 m st) ⟨sd+P,sb,sk,so⟩:=⟨_,rfl⟩
       rw [←hSE] at hR;have HSE:=Lib.hid hSE;have HR2:=Lib.hid hR;have HInv2:=Lib.hid hinv;have HIn:=Lib.hid hst;have HP:=Lib.hid hP;clear hSE hR hinv hst hP HInv HR hcl;rw [Addr.add_lit,Nat.zero_add] at hc;have hPe:(m-n)*((sk:Int)+1)=P:=HP.out.symm;have hmn:0≤m-n:=by omega
       go_wp2_with fail;clear hPe;go_loopw [7,8,10,59] (fun v7 v8 v10 v59 wr=>TxRel3 w B g st l m SE v7 v8 v10 v59 wr) (fun _ _ _ v59 _=>l.length-(intOf v59).toNat)
       case atStart=>exact ⟨0,⟨sd+P,sb,sk,so⟩,Nat.zero_le _,rfl,rfl,rfl,rfl,HBd5.out,HBel5.out,HMs.out,HIn.out,by rw [HSE.out];rfl⟩
       case round=>
        clear HMs HBd5 HBel5 HIn hc hP0 hP1;obtain ⟨j,s,hj,rfl,rfl,rfl,rfl,hbd,hbel,hms,hin,hR⟩:=hrel;obtain ⟨qd,qb,qk,qo⟩:=s
        dsimp only at hbd
        have hd0:=hin.d0;have hd1:=hin.d1;have hk1:=hin.k1;have hb0:=hin.b0;have hb1:=hin.b1;have hol:=hin.ol;have hcm:=cnt_le l (m+1)
        have hcs:=cnt_succ m l;have het:=eqs_take l m j
        dsimp only at hd0 hd1 hk1 hb0 hb1 hol
        have hqk:qk≤60:=by omega
        clear hcs het hcm hk1;have HBd6:=Lib.hid hbd;have HBel6:=Lib.hid hbel;have HMs:=Lib.hid hms;have HIn:=Lib.hid hin;have HR:=Lib.hid hR;clear hbd hms hin hR
        by_cases hlt2:j<l.length
        ·have hbw2:=hbel
         rw [HB.out] at hbw2;obtain ⟨a,ha,hc⟩:=(HL.out.below hbw2) j hlt2;subst ha;clear hbel hbw2;have hx:=HS.out (l.getD j 0) (by rw [List.getD_eq_getElem?_getD,List.getElem?_eq_getElem hlt2];exact List.getElem_mem _)
         have hR:=HR.out;rw [foldl_getD _ _ _ hlt2] at hR;have hnx:=pin_step st hl (by omega) hm1 hlt2 HIn.out;generalize l.getD j 0=x at hc hx hR hnx;obtain ⟨hx0,hx1⟩:=hx;unfold pin1 at hR hnx
         dsimp only at hR hnx
         by_cases hxm:x<m
         ·rw [if_pos hxm] at hR hnx
          have HR3:=Lib.hid hR;have HNx:=Lib.hid hnx;clear hR hnx;have hxe:¬x=m:=by omega
          go_wp2_with fail;go_roundw
          case rel=>exact ⟨j+1,_,hlt2,by go_num,rfl,rfl,rfl,HBd6.out,HBel6.out,HMs.out,HNx.out,HR3.out⟩
          case measure=>simp [intOf];omega
         ·rw [if_neg hxm] at hR hnx
          by_cases hxe:x=m
          ·rw [if_pos hxe] at hR hnx
           subst hxe;have hsz:=str_size qo;have hpl:=putS_len qd qb;have hput:=put_calls qd qb hd0 (by omega)
           have hwr:=fun (wy:World) (hb:BldAt B B (strOfNums qo) wy) (hBy:B≤wy.heap.size)=>bld_write (b:=B) (B:=B) (s:=strOfNums qo) (strOfNums (putS qd qb)) hb (by rw [hsz];omega) (by rw [str_size];omega) hBy
           have had:∀wy,Calls Tryz.prog 167 #[.int .u64 qd,.int .u64 ((qk:Int)+1),.bool ((qk:Int)==(st:Int))] wy fun e w'=>e= .returned (.int .i64 (adaptS qd ((qk:Int)+1) (qk==st)))∧Below wy.heap.size wy w':=fun wy=>by
            rw [cast_beq]
            exact adapt_calls qd ((qk:Int)+1) (qk==st) hd0 (by omega) (by omega) (by omega) wy
           have HPut:=Lib.hid hput;have HWr:=Lib.hid hwr;have HAd:=Lib.hid had;have HR3:=Lib.hid hR;have HNx:=Lib.hid hnx;generalize adaptS qd ((qk:Int)+1) (qk==st)=ad at HAd HR3 HNx;clear hR hnx hput hwr had hsz hpl;go_wp2_with fail;refine (HPut.out _).mono ?_;rintro e w1 ⟨rfl,hb1⟩
           have HBd7:=Lib.hid (bld_keep HBd6.out hb1)
           have HMs1:=Lib.hid (HMs.out.below hb1)
           have hbe1:=HBel6.out.trans (hb1.mono (by have:=HBel6.out.size;rw [←HB.out] at this;exact this))
           have HBel7:=Lib.hid hbe1;have hB1:B≤w1.heap.size:=by rw [HB.out];exact hbe1.size
           have HB1:=Lib.hid hB1;clear hb1 hbe1 hB1;go_wp2_with fail;refine (HWr.out w1 HBd7.out HB1.out).mono ?_;rintro e w2 ⟨rfl,h2,h3,h4⟩
           rw [str_append] at h2;have HBd8:=Lib.hid h2;have HMs2:=Lib.hid (HMs1.out.oth HBd7.out h4)
           have hbe2:=HBel7.out.trans h3;have HBel8:=Lib.hid hbe2;clear h2 h3 h4 hbe2;go_wp2_with fail;refine (HAd.out _).mono ?_;rintro e w3 ⟨rfl,hb3⟩
           have HBd9:=Lib.hid (bld_keep HBd8.out hb3)
           have HMs3:=Lib.hid (HMs2.out.below hb3)
           have hbe3:=HBel8.out.trans (hb3.mono (by have:=HBel8.out.size;rw [←HB.out] at this;exact this))
           have HBel9:=Lib.hid hbe3;clear hb3 hbe3;go_wp2_with fail;go_roundw
           case rel=>exact ⟨j+1,_,hlt2,by go_num,rfl,rfl,by go_num,HBd9.out,HBel9.out,HMs3.out,HNx.out,HR3.out⟩
           case measure=>simp [intOf];omega
          ·rw [if_neg hxe] at hR hnx
           have HR3:=Lib.hid hR;have HNx:=Lib.hid hnx;clear hR hnx;go_wp2_with fail;go_roundw
           case rel=>exact ⟨j+1,_,hlt2,by go_num,rfl,rfl,rfl,HBd6.out,HBel6.out,HMs.out,HNx.out,HR3.out⟩
           case measure=>simp [intOf];omega
        ·obtain rfl:j=l.length:=by omega
         have hR:=HR.out;rw [List.drop_length,List.foldl_nil] at hR;have hR2:=HR2.out;rw [←hR] at hR2
         dsimp only at hR2
         have hne:=pin_end hl HInv2.out HIn.out
         dsimp only at hne
         have HR4:=Lib.hid hR2;have HNe:=Lib.hid hne;have HBel7:=Lib.hid hbel;clear hR hR2 hne hbel;go_wp2_with fail;go_roundw
         case rel=>exact ⟨i+1,m+1,_,hlt,by go_num,rfl,rfl,rfl,rfl,HBd6.out,HBel7.out,HMs.out,HNe.out,HR4.out⟩
         case measure=>simp [intOf];omega
      ·obtain rfl:i=(ms l).length:=by omega
       have hR:=HR.out;rw [List.drop_length,List.foldl_nil] at hR
       dsimp only at hR
       have hbw:B≤wr.heap.size:=by rw [HB.out];exact HBel5.out.size
       have hst2:=bld_string HBd5.out hbw
       dsimp only at hst2
       rw [hR] at hst2;have HSt2:=Lib.hid hst2;clear hst2 hR hbw;go_wp2_with (go_at_call 36;refine HSt2.out.mono ?_;rintro e w1 ⟨rfl,h1,h2⟩)
       go_ret;refine ⟨rfl,?_⟩
       rw [←HB.out]
       exact HBel5.out.trans h1
end Pun
namespace Out
open Go.RowKit Win Stp Lst
def StB (P:World→Prop):Prop:=∀w w',P w→Below w.heap.size w w'→P w'
def StO (P:World→Prop):Prop:=∀b w w' cs,P w→w.heap[b]? =some (.cells cs 70 (0,0))→Oth b w w'→P w'
def Kin (S:Nat→Prop) (P:World→Prop):Prop:=∀w i cs T fz,P w→w.heap[i]? =some (.cells cs T fz)→(T=5∨T=70∨T=39)→¬S i
structure Mac (g:Nat) (S:Nat→Prop) (F E:Nat) (l S1 S2:List Int) (P0 P1 P2 P3:World→Prop):Prop where
 b0:StB P0
 b3:StB P3
 o1:StO P1
 o2:StO P2
 o3:StO P3
 k0:Kin S P0
 k1:Kin S P1
 k2:Kin S P2
 feed:∀(w:World) (A:Option Addr) (cap:Nat),P0 w→(∀wr,Chg S w wr→Lst wr .u32 A l)→Calls Tryz.prog F #[.pointer (some ⟨g,0,none⟩),.slice A l.length cap,.int .i64 4096] w fun e w'=>e= .returned (.tuple #[.int .i64 l.length,.string (strOfNums S1)])∧P1 w'∧Chg S w w'
 fin:∀w,P1 w→Calls Tryz.prog E #[.pointer (some ⟨g,0,none⟩)] w fun e w'=>e= .returned (.tuple #[])∧P2 w'∧Chg S w w'
 don2:∀w,P2 w→Calls Tryz.prog 138 #[.pointer (some ⟨g,0,none⟩)] w fun e w'=>e= .returned (.bool S2.isEmpty)∧w=w'
 more:∀w,P2 w→S2≠[]→Calls Tryz.prog F #[.pointer (some ⟨g,0,none⟩),.slice none 0 0,.int .i64 4096] w fun e w'=>e= .returned (.tuple #[.int .i64 0,.string (strOfNums S2)])∧P3 w'∧Chg S w w'
 don3:∀w,P3 w→Calls Tryz.prog 138 #[.pointer (some ⟨g,0,none⟩)] w fun e w'=>e= .returned (.bool true)∧w=w'
 base2:∀w,P2 w→∃b,BaseAt w g b∧b.err=0∧b.pl=0
 base3:∀w,P3 w→∃b,BaseAt w g b∧b.err=0∧b.pl=0
def NewPost2 (PT:TypeId) (F E:Nat) (l S1 S2:List Int) (w:World) (e:Ending) (w':World):Prop:=
 ∃(g:Nat) (S:Nat→Prop) (P0 P1 P2 P3:World→Prop),Mac g S F E l S1 S2 P0 P1 P2 P3∧e= .returned (.tuple #[.iface PT (.pointer (some ⟨g,0,none⟩)),.int .i64 0])∧Below w.heap.size w w'∧P0 w'∧∀i,S i→w.heap.size≤i
theorem bld_blk {B b:Nat} {s:ByteArray} {w:World} (h:BldAt B b s w):∃cs,w.heap[b]? =some (.cells cs 70 (0,0)):=by
 rcases h with h|h
 ·obtain ⟨_,v,h2,_⟩:=h;exact ⟨_,h2⟩
 ·obtain ⟨_,v,h2,_⟩:=h;exact ⟨_,h2⟩
theorem StO.use {P:World→Prop} (h:StO P) {B b:Nat} {s:ByteArray} {w w':World} (hp:P w) (hb:BldAt B b s w) (ho:Oth b w w'):P w':=by
 obtain ⟨cs,hc⟩:=bld_blk hb;exact h b w w' cs hp hc ho
theorem Kin.bld {S:Nat→Prop} {P:World→Prop} (h:Kin S P) {B b:Nat} {s:ByteArray} {w w':World} (hp:P w) (hb:BldAt B b s w) (hc:Chg S w w'):BldAt B b s w':=by
 obtain ⟨cs,hcs⟩:=bld_blk hb;exact bld_chg hb hc (h w b cs _ _ hp hcs (.inr (.inl rfl))) (fun i cs fz hi=>h w i cs _ _ hp hi (.inl rfl))
theorem Kin.res {S:Nat→Prop} {P:World→Prop} (h:Kin S P) {r:Nat} {w w':World} (hp:P w) (hr:w.heap[r]? =some (.cells #[.int .i64 0,.int .i64 0] 39 (0,0))) (hc:Chg S w w'):w'.heap[r]? =some (.cells #[.int .i64 0,.int .i64 0] 39 (0,0)):=
 (hc.block r (Array.getElem?_eq_some_iff.1 hr).1 (h w r _ _ _ hp hr (.inr (.inr rfl)))).trans hr
theorem oth_res {b r:Nat} {w w':World} (h:Oth b w w') {B:Nat} {s:ByteArray} (hb:BldAt B b s w) (hr:w.heap[r]? =some (.cells #[.int .i64 0,.int .i64 0] 39 (0,0))):w'.heap[r]? =some (.cells #[.int .i64 0,.int .i64 0] 39 (0,0)):=by
 refine h r _ hr ?_ (by intro c fz h;injection h with h1 h2;cases h2)
 intro hh;injection hh with hh
 subst hh;obtain ⟨cs,hc⟩:=bld_blk hb;rw [hr] at hc;injection hc with hc
 injection hc with h1 h2
 cases h2
end Out
namespace Out
open Go.RowKit Win Stp Lst
theorem mk_puny (v:Value) (w:World):(Instr.makeInterface 119 v).run Tryz.prog w= .ok (.iface 119 v) w:=run_makeInterface w 119 v (by kernel_rfl)
theorem feed_puny (g:Nat) (w:World):(method 407 119 (.pointer (some ⟨g,0,none⟩)) "Feed").run Tryz.prog w= .ok (160,.pointer (some ⟨g,0,none⟩)) w:=by kernel_rfl
theorem end_puny (g:Nat) (w:World):(method 407 119 (.pointer (some ⟨g,0,none⟩)) "End").run Tryz.prog w= .ok (159,.pointer (some ⟨g,0,none⟩)) w:=by kernel_rfl
theorem done_puny (g:Nat) (w:World):(method 407 119 (.pointer (some ⟨g,0,none⟩)) "Done").run Tryz.prog w= .ok (138,.pointer (some ⟨g,0,none⟩)) w:=by kernel_rfl
theorem fail_puny (g:Nat) (w:World):(method 407 119 (.pointer (some ⟨g,0,none⟩)) "Fail").run Tryz.prog w= .ok (140,.pointer (some ⟨g,0,none⟩)) w:=by kernel_rfl
attribute [local go_sem] mk_puny feed_puny end_puny done_puny fail_puny
def LoopE_puny (w:World) (b:Nat) (S1 S2:List Int) (P2 P3:World→Prop) (v:Value) (wr:World):Prop:=
 (((P2 wr∧BldAt w.heap.size b (strOfNums S1) wr)∧S2≠[]∧v=undef)∨((P3 wr∨(P2 wr∧S2=[]))∧BldAt w.heap.size b (strOfNums (S1++S2)) wr))∧wr.heap[w.heap.size]? =some (.cells #[.int .i64 0,.int .i64 0] 39 (0,0))∧Below w.heap.size w wr
def strM_puny:Value→Nat
 | .string _=>0
 |_=>1
set_option maxRecDepth 100000 in
set_option maxHeartbeats 8000000 in
theorem encode2_puny {c:Int} {l S1 S2:List Int} {w:World} {A:Option Addr} {cap:Nat} (hnew:∀wx,Calls Tryz.prog 34 #[.int .i64 c] wx (NewPost2 119 160 159 l S1 S2 wx)) (hs1:S1.length≤100000) (hs2:S2.length≤100000)
  (hL:∀wx,Below w.heap.size w wx→Lst wx .u32 A l) (hl:l.length≤600) (hcap:l.length≤cap):
  Calls Tryz.prog 17 #[.int .i64 c,.slice A l.length cap] w (EncPost w (S1++S2)):=by
 have HL:=Lib.hid hL;have HNew:=Lib.hid hnew;clear hL hnew;go_enter Tryz.func17,Tryz.ntmps17;go_wp2_with fail;refine (HNew.out _).mono ?_;rintro e w1 ⟨g,S,P0,P1,P2,P3,hm,rfl,hb,hp0,hS⟩
 obtain ⟨w0,hw0⟩:∃w0,w0=w.alloc (.cells #[.int .i64 0,.int .i64 0] 39):=⟨_,rfl⟩
 rw [←hw0] at hb hS;have hz0:w0.heap.size=w.heap.size+1:=by rw [hw0];simp
 have hr0:w0.heap[w.heap.size]? =some (.cells #[.int .i64 0,.int .i64 0] 39 (0,0)):=by rw [hw0];exact heap_alloc_new _ _
 have hb0:Below w.heap.size w w0:=by rw [hw0];exact (Below.refl _ _).alloc (Nat.le_refl _) _
 have hr1:=(hb.block w.heap.size (by omega)).trans hr0;have hb1:=hb0.trans (Below.mono hb (by omega))
 have HM:=Lib.hid hm;have HP0:=Lib.hid hp0;have HR1:=Lib.hid hr1;have HB1:=Lib.hid hb1;have HFs:=Lib.hid (show ∀i,S i→w.heap.size≤i from fun i hi=>by have:=hS i hi;omega)
 clear hm hb hw0 hz0 hr0 hb0 hS hr1 hb1 hp0;go_upto_block 0 with fail;obtain ⟨b,hbd⟩:∃b,b=w1.heap.size:=⟨_,rfl⟩
 obtain ⟨w2,hw2⟩:∃w2,w2=w1.alloc (.cells #[.pointer none,.slice none 0 0] 70):=⟨_,rfl⟩
 have hb12:Below w1.heap.size w1 w2:=by rw [hw2];exact (Below.refl _ _).alloc (Nat.le_refl _) _
 have HBl:=Lib.hid (show BldAt w.heap.size b ByteArray.empty w2 by rw [hw2,hbd];exact bld_new _ _ HB1.out.size)
 have HP2:=Lib.hid (HM.out.b0 _ _ HP0.out hb12)
 have HR2:=Lib.hid ((hb12.block w.heap.size (Array.getElem?_eq_some_iff.1 HR1.out).1).trans HR1.out)
 have HB2:=Lib.hid (HB1.out.trans (Below.mono hb12 HB1.out.size))
 rw [←hw2,←hbd]
 clear hbd hw2 hb12 HR1 HB1 HP0;go_wp2_with fail;go_loopw [1] (fun v wr=>v= .slice A l.length cap∧w2=wr) (fun _ _=>0)
 case atStart=>exact ⟨rfl,rfl⟩
 case round=>
  obtain ⟨rfl,rfl⟩:=hrel;have HFd:=Lib.hid (HM.out.feed w2 A cap HP2.out (fun wr hc=>HL.out wr (Chg.below HB2.out hc HFs.out)))
  have hsz:=str_size S1;go_wp2_with fail;refine HFd.out.mono ?_;rintro e w3 ⟨rfl,hp3,hc3⟩
  have hb3:=HM.out.k0.bld HP2.out HBl.out hc3;have hr3:=HM.out.k0.res HP2.out HR2.out hc3;have hbw3:=Chg.below HB2.out hc3 HFs.out;have HWr:=Lib.hid (bld_write (strOfNums S1) hb3 (by decide) (by omega) hbw3.size)
  have HP3:=Lib.hid hp3;have HR3:=Lib.hid hr3;have HB3:=Lib.hid hbw3;have HBl3:=Lib.hid hb3;clear hp3 hc3 hb3 hr3 hbw3;go_wp2_with fail;refine HWr.out.mono ?_;rintro e w4 ⟨rfl,hb4,hbe4,hot4⟩
  rw [ByteArray.empty_append] at hb4;have hp4:=HM.out.o1.use HP3.out HBl3.out hot4;have hr4:=oth_res hot4 HBl3.out HR3.out;have HEnd:=Lib.hid (HM.out.fin w4 hp4)
  have HP4:=Lib.hid hp4;have HBl4:=Lib.hid hb4;have HB4:=Lib.hid (HB3.out.trans hbe4)
  have HR4:=Lib.hid hr4;clear hb4 hbe4 hot4 hr4 hp4;go_upto_region 7 with fail;go_cut [1] from 22 to 41 (fun v wx=>(∃A' c',v= .slice A' 0 c')∧w4=wx)
  case first=>
   go_wp2_with fail
   all_goals
    go_meet;exact ⟨⟨_,_,rfl⟩,rfl⟩
  case rest=>
   obtain ⟨⟨A',c',rfl⟩,rfl⟩:=hcut;go_wp2_with fail;refine HEnd.out.mono ?_;rintro e w5 ⟨rfl,hp5,hc5⟩
   have hb5:=HM.out.k1.bld HP4.out HBl4.out hc5;have hr5:=HM.out.k1.res HP4.out HR4.out hc5;have hbw5:=Chg.below HB4.out hc5 HFs.out;have HLo:=Lib.hid (show LoopE_puny w b S1 S2 P2 P3 undef w5 from ⟨by
    by_cases h:S2=[]
    ·exact .inr ⟨.inr ⟨hp5,h⟩,by rw [h,List.append_nil];exact hb5⟩
    ·exact .inl ⟨⟨hp5,hb5⟩,h,rfl⟩,hr5,hbw5⟩)
   have HP5:=Lib.hid hp5;clear hp5 hc5 hb5 hr5 hbw5;go_wp2_with fail;go_loopw [12] (fun v wr=>LoopE_puny w b S1 S2 P2 P3 v wr) (fun v _=>strM_puny v)
   case atStart=>exact HLo.out
   case round=>
    obtain ⟨hst,hr6,hb6⟩:=hrel;have HR6:=Lib.hid hr6;have HB6:=Lib.hid hb6;clear hr6 hb6;rcases hst with ⟨⟨hp6,hbl6⟩,hne,rfl⟩|⟨hp6,hbl6⟩
    ·have hdn:=HM.out.don2 wr hp6
     rw [show S2.isEmpty=false from by cases S2 with|nil=>exact absurd rfl hne|cons x xs=>rfl] at hdn;have HDn:=Lib.hid hdn;have HMo:=Lib.hid (HM.out.more wr hp6 hne)
     have hsz2:=str_size S2;have HP6:=Lib.hid hp6;have HBl6:=Lib.hid hbl6;clear hdn hp6 hbl6 hne;go_wp2_with fail;refine HDn.out.mono ?_;rintro e w6 ⟨rfl,rfl⟩
     go_wp2_with fail;refine HMo.out.mono ?_;rintro e w7 ⟨rfl,hp7,hc7⟩
     have hb7:=HM.out.k2.bld HP6.out HBl6.out hc7;have hr7:=HM.out.k2.res HP6.out HR6.out hc7;have hbw7:=Chg.below HB6.out hc7 HFs.out;have HWr2:=Lib.hid (bld_write (strOfNums S2) hb7 (by omega) (by omega) hbw7.size)
     have HP7:=Lib.hid hp7;have HR7:=Lib.hid hr7;have HB7:=Lib.hid hbw7;have HBl7:=Lib.hid hb7;clear hp7 hc7 hb7 hr7 hbw7;go_wp2_with fail;refine HWr2.out.mono ?_;rintro e w8 ⟨rfl,hb8,hbe8,hot8⟩
     rw [str_append] at hb8;have HLo8:=Lib.hid (show LoopE_puny w b S1 S2 P2 P3 (.string (strOfNums S2)) w8 from ⟨.inr ⟨.inl (HM.out.o3.use HP7.out HBl7.out hot8),hb8⟩,oth_res hot8 HBl7.out HR7.out,HB7.out.trans hbe8⟩)
     clear hb8 hbe8 hot8;go_wp2_with fail;go_roundw
     case rel=>exact HLo8.out
     case measure=>exact Nat.zero_lt_one
    ·obtain ⟨bb,hbs,he0,he1⟩:∃bb,BaseAt wr g bb∧bb.err=0∧bb.pl=0:=by
      rcases hp6 with hp6|hp6
      ·exact HM.out.base3 wr hp6
      ·exact HM.out.base2 wr hp6.1
     have hdn:Calls Tryz.prog 138 #[.pointer (some ⟨g,0,none⟩)] wr fun e w'=>e= .returned (.bool true)∧wr=w':=by
      rcases hp6 with hp6|⟨hp6,h⟩
      ·exact HM.out.don3 wr hp6
      ·have:=HM.out.don2 wr hp6
       rw [h] at this;exact this
     have HDn:=Lib.hid hdn;have HSt:=Lib.hid (bld_string hbl6 HB6.out.size)
     have HBl6:=Lib.hid hbl6;have HP6:=Lib.hid hp6;have hE:(bb.err=0∧bb.pl=0):=⟨he0,he1⟩
     have HE:=Lib.hid hE;clear hdn hbl6 hp6 he0 he1 hE hbs;go_wp2_with fail;refine HDn.out.mono ?_;rintro e w6 ⟨rfl,rfl⟩
     go_wp2_with fail;refine HSt.out.mono ?_;rintro e w6 ⟨rfl,hb6,hot6⟩
     have hr6:=oth_res hot6 HBl6.out HR6.out;have hbs6:∃b6,BaseAt w6 g b6∧b6.err=0∧b6.pl=0:=by
      rcases HP6.out with hp6|hp6
      ·exact HM.out.base3 w6 (HM.out.o3.use hp6 HBl6.out hot6)
      ·exact HM.out.base2 w6 (HM.out.o2.use hp6.1 HBl6.out hot6)
     obtain ⟨b6,hb6s,q1,q2⟩:=hbs6;have hfl:=fail_calls g b6 w6 hb6s;rw [q1,q2] at hfl;have HFl:=Lib.hid hfl;have HR7:=Lib.hid hr6;have HB7:=Lib.hid (HB6.out.trans hb6)
     clear hb6 hot6 hr6 hb6s q1 q2 hfl;go_wp2_with fail;refine HFl.out.mono ?_;rintro e w7 ⟨rfl,rfl⟩
     obtain ⟨w7,hw7⟩:∃w7,w7=w6.alloc (.cells #[.int .i64 0,.int .i64 0] 39):=⟨_,rfl⟩
     have hr7:w7.heap[w.heap.size]? =some (.cells #[.int .i64 0,.int .i64 0] 39 (0,0)):=by rw [hw7,Below.heap_alloc _ _ _ (Array.getElem?_eq_some_iff.1 HR7.out).1];exact HR7.out
     have hb7:Below w.heap.size w w7:=by rw [hw7];exact HB7.out.alloc HB7.out.size _
     rw [←hw7]
     have c0:w7.cell? ⟨w.heap.size,0,none⟩=some (.int .i64 0):=by rw [cell_of hr7];rfl
     have c1:w7.cell? ⟨w.heap.size,1,none⟩=some (.int .i64 0):=by rw [cell_of hr7];rfl
     have f0:=frozen_of hr7 0;have f1:=frozen_of hr7 1;have HB8:=Lib.hid hb7;clear hw7 hr7 hb7;go_wp2_with fail;have e0:((w7.setCell ⟨w.heap.size,0,none⟩ (.int .i64 0)).setCell ⟨w.heap.size,1,none⟩ (.int .i64 0)).cell? ⟨w.heap.size,0,none⟩=some (.int .i64 0):=by
      rw [World.cell?_setCell_other _ _ _ _ (by simp),World.cell?_setCell_same _ _ _ c0]
     have e1:((w7.setCell ⟨w.heap.size,0,none⟩ (.int .i64 0)).setCell ⟨w.heap.size,1,none⟩ (.int .i64 0)).cell? ⟨w.heap.size,1,none⟩=some (.int .i64 0):=by
      rw [World.cell?_setCell_same (u:=.int .i64 0) _ _ _ (by rw [World.cell?_setCell_other _ _ _ _ (by simp)];exact c1)]
     refine bodyPost_ret (v:=.tuple #[.string (strOfNums (S1++S2)),.agg #[.int .i64 0,.int .i64 0]]) (by simp [results,Tryz.results17,go_sem,e0,e1]) rfl ⟨rfl,(HB8.out.setCell (p:=⟨w.heap.size,0,none⟩) (Nat.le_refl _) _).setCell (p:=⟨w.heap.size,1,none⟩) (Nat.le_refl _) _⟩
end Out
namespace Win
open Go.RowKit
def hld (off c:Int):Bool:=decide (off≤c)&&decide (c-off<128)
theorem holds_calls (off c:Int) (w:World) (h0:0≤off) (h1:off≤4294967295) (h2:0≤c) (h3:c≤4294967295):Calls Tryz.prog 214 #[.int .u32 off,.int .u32 c] w fun e w'=>e= .returned (.bool (hld off c))∧w=w':=by
 by_cases ha:off≤c
 ·have hb:0≤c-off:=by omega
  go_enter Tryz.func214,Tryz.ntmps214;go_wp2;go_ret;exact ⟨by unfold hld;simp [ha],rfl⟩
 ·go_enter Tryz.func214,Tryz.ntmps214
  go_wp2;go_ret;exact ⟨by unfold hld;simp;omega,rfl⟩
def firsts:List Int:=[128,192,1024,1536,2304,12352,12448,65280]
def used0:List Int:=[7,6,5,4,3,2,1,0]
theorem list8 {l:List Int} (h:l.length=8):∃a b c d e f g i:Int,l=[a,b,c,d,e,f,g,i]:=by
 match l,h with
 |[a,b,c,d,e,f,g,i],_=>exact ⟨a,b,c,d,e,f,g,i,rfl⟩
def findFrom (c:Int):Nat→List Int→Int×Bool
 |_,[]=>(0,false)
 |n,x::l=>if hld x c=true then ((n:Int),true) else findFrom c (n+1) l
def wFind (o:List Int) (c:Int):Int×Bool:=findFrom c 0 o
def Rng (o:List Int):Prop:=∀x∈o,0≤x∧x≤4294967295
theorem find_step (c:Int) (o:List Int) (k:Nat) (h:k<o.length):findFrom c k (o.drop k)=if hld (o.getD k 0) c=true then ((k:Int),true) else findFrom c (k+1) (o.drop (k+1)):=by
 rw [List.drop_eq_getElem_cons h]
 simp only [findFrom]
 rw [List.getD_eq_getElem?_getD,List.getElem?_eq_getElem h]
 rfl
set_option maxHeartbeats 1000000 in
theorem find_calls (g:Nat) (o u:List Int) (c:Int) (w:World) (h:WinAt w g o u) (hr:Rng o) (h2:0≤c) (h3:c≤4294967295):Calls Tryz.prog 208 #[.pointer (some ⟨g,0,none⟩),.int .u32 c] w fun e w'=>e= .returned (.tuple #[.int .i64 (wFind o c).1,.bool (wFind o c).2])∧w=w':=by
 obtain ⟨a0,a1,a2,a3,a4,a5,a6,a7,rfl⟩:=list8 h.lo;have c0:=h.cellO 0 (by decide)
 have c1:=h.cellO 1 (by decide)
 have c2:=h.cellO 2 (by decide)
 have c3:=h.cellO 3 (by decide)
 have c4:=h.cellO 4 (by decide)
 have c5:=h.cellO 5 (by decide)
 have c6:=h.cellO 6 (by decide)
 have c7:=h.cellO 7 (by decide)
 simp only [List.getD_cons_zero,List.getD_cons_succ] at c0 c1 c2 c3 c4 c5 c6 c7;have HR:=Lib.hid hr;clear h hr;go_enter Tryz.func208,Tryz.ntmps208;go_wp2_with fail;go_loop [12] (fun i=>∃(k:Nat) (z:Int),z=k∧k≤8∧i= .int .i64 z∧Hid (wFind [a0,a1,a2,a3,a4,a5,a6,a7] c=findFrom c k ([a0,a1,a2,a3,a4,a5,a6,a7].drop k))) (fun i=>8-(intOf i).toNat)
 case atStart=>exact ⟨0,0,rfl,by decide,rfl,Lib.hid rfl⟩
 case round=>
  obtain ⟨k,z,hz,hk,rfl,HF⟩:=hrel;have hk8:k=0∨k=1∨k=2∨k=3∨k=4∨k=5∨k=6∨k=7∨k=8:=by omega
  rcases hk8 with rfl|rfl|rfl|rfl|rfl|rfl|rfl|rfl|rfl
  ·obtain rfl:z=0:=hz
   have ix:∀w:World,(Instr.index 226 (.agg #[.int .u32 a0,.int .u32 a1,.int .u32 a2,.int .u32 a3,.int .u32 a4,.int .u32 a5,.int .u32 a6,.int .u32 a7]) (.int .i64 0)).run Tryz.prog w= .ok (.int .u32 a0) w:=fun _=>by kernel_rfl
   have hst:=find_step c [a0,a1,a2,a3,a4,a5,a6,a7] 0 (by simp)
   rw [←HF.out] at hst;simp only [List.getD_cons_zero] at hst;clear HF
   by_cases hb:hld a0 c=true
   ·rw [if_pos hb] at hst
    have HS:=Lib.hid hst;clear hst;have hx:=holds_calls a0 c w (HR.out _ (by simp)).1 (HR.out _ (by simp)).2 h2 h3;rw [hb] at hx;clear hb;go_wp2_with (go_at_call 214;refine hx.mono ?_;rintro e w1 ⟨rfl,rfl⟩)
    go_ret2;exact ⟨by rw [HS.out];rfl,rfl⟩
   ·rw [if_neg hb] at hst
    have hb':hld a0 c=false:=by simpa using hb
    have HS:=Lib.hid hst;clear hst hb;have hx:=holds_calls a0 c w (HR.out _ (by simp)).1 (HR.out _ (by simp)).2 h2 h3;rw [hb'] at hx;clear hb';go_wp2_with (go_at_call 214;refine hx.mono ?_;rintro e w1 ⟨rfl,rfl⟩)
    exact ⟨⟨1,1,rfl,by decide,by rfl,HS⟩,by simp [intOf]⟩
  ·obtain rfl:z=1:=hz
   have ix:∀w:World,(Instr.index 226 (.agg #[.int .u32 a0,.int .u32 a1,.int .u32 a2,.int .u32 a3,.int .u32 a4,.int .u32 a5,.int .u32 a6,.int .u32 a7]) (.int .i64 1)).run Tryz.prog w= .ok (.int .u32 a1) w:=fun _=>by kernel_rfl
   have hst:=find_step c [a0,a1,a2,a3,a4,a5,a6,a7] 1 (by simp)
   rw [←HF.out] at hst;simp only [List.getD_cons_zero,List.getD_cons_succ] at hst;clear HF
   by_cases hb:hld a1 c=true
   ·rw [if_pos hb] at hst
    have HS:=Lib.hid hst;clear hst;have hx:=holds_calls a1 c w (HR.out _ (by simp)).1 (HR.out _ (by simp)).2 h2 h3;rw [hb] at hx;clear hb;go_wp2_with (go_at_call 214;refine hx.mono ?_;rintro e w1 ⟨rfl,rfl⟩)
    go_ret2;exact ⟨by rw [HS.out];rfl,rfl⟩
   ·rw [if_neg hb] at hst
    have hb':hld a1 c=false:=by simpa using hb
    have HS:=Lib.hid hst;clear hst hb;have hx:=holds_calls a1 c w (HR.out _ (by simp)).1 (HR.out _ (by simp)).2 h2 h3;rw [hb'] at hx;clear hb';go_wp2_with (go_at_call 214;refine hx.mono ?_;rintro e w1 ⟨rfl,rfl⟩)
    exact ⟨⟨2,2,rfl,by decide,by rfl,HS⟩,by simp [intOf]⟩
  ·obtain rfl:z=2:=hz
   have ix:∀w:World,(Instr.index 226 (.agg #[.int .u32 a0,.int .u32 a1,.int .u32 a2,.int .u32 a3,.int .u32 a4,.int .u32 a5,.int .u32 a6,.int .u32 a7]) (.int .i64 2)).run Tryz.prog w= .ok (.int .u32 a2) w:=fun _=>by kernel_rfl
   have hst:=find_step c [a0,a1,a2,a3,a4,a5,a6,a7] 2 (by simp)
   rw [←HF.out] at hst;simp only [List.getD_cons_zero,List.getD_cons_succ] at hst;clear HF
   by_cases hb:hld a2 c=true
   ·rw [if_pos hb] at hst
    have HS:=Lib.hid hst;clear hst;have hx:=holds_calls a2 c w (HR.out _ (by simp)).1 (HR.out _ (by simp)).2 h2 h3;rw [hb] at hx;clear hb;go_wp2_with (go_at_call 214;refine hx.mono ?_;rintro e w1 ⟨rfl,rfl⟩)
    go_ret2;exact ⟨by rw [HS.out];rfl,rfl⟩
   ·rw [if_neg hb] at hst
    have hb':hld a2 c=false:=by simpa using hb
    have HS:=Lib.hid hst;clear hst hb;have hx:=holds_calls a2 c w (HR.out _ (by simp)).1 (HR.out _ (by simp)).2 h2 h3;rw [hb'] at hx;clear hb';go_wp2_with (go_at_call 214;refine hx.mono ?_;rintro e w1 ⟨rfl,rfl⟩)
    exact ⟨⟨3,3,rfl,by decide,by rfl,HS⟩,by simp [intOf]⟩
  ·obtain rfl:z=3:=hz
   have ix:∀w:World,(Instr.index 226 (.agg #[.int .u32 a0,.int .u32 a1,.int .u32 a2,.int .u32 a3,.int .u32 a4,.int .u32 a5,.int .u32 a6,.int .u32 a7]) (.int .i64 3)).run Tryz.prog w= .ok (.int .u32 a3) w:=fun _=>by kernel_rfl
   have hst:=find_step c [a0,a1,a2,a3,a4,a5,a6,a7] 3 (by simp)
   rw [←HF.out] at hst;simp only [List.getD_cons_zero,List.getD_cons_succ] at hst;clear HF
   by_cases hb:hld a3 c=true
   ·rw [if_pos hb] at hst
    have HS:=Lib.hid hst;clear hst;have hx:=holds_calls a3 c w (HR.out _ (by simp)).1 (HR.out _ (by simp)).2 h2 h3;rw [hb] at hx;clear hb;go_wp2_with (go_at_call 214;refine hx.mono ?_;rintro e w1 ⟨rfl,rfl⟩)
    go_ret2;exact ⟨by rw [HS.out];rfl,rfl⟩
   ·rw [if_neg hb] at hst
    have hb':hld a3 c=false:=by simpa using hb
    have HS:=Lib.hid hst;clear hst hb;have hx:=holds_calls a3 c w (HR.out _ (by simp)).1 (HR.out _ (by simp)).2 h2 h3;rw [hb'] at hx;clear hb';go_wp2_with (go_at_call 214;refine hx.mono ?_;rintro e w1 ⟨rfl,rfl⟩)
    exact ⟨⟨4,4,rfl,by decide,by rfl,HS⟩,by simp [intOf]⟩
  ·obtain rfl:z=4:=hz
   have ix:∀w:World,(Instr.index 226 (.agg #[.int .u32 a0,.int .u32 a1,.int .u32 a2,.int .u32 a3,.int .u32 a4,.int .u32 a5,.int .u32 a6,.int .u32 a7]) (.int .i64 4)).run Tryz.prog w= .ok (.int .u32 a4) w:=fun _=>by kernel_rfl
   have hst:=find_step c [a0,a1,a2,a3,a4,a5,a6,a7] 4 (by simp)
   rw [←HF.out] at hst;simp only [List.getD_cons_zero,List.getD_cons_succ] at hst;clear HF
   by_cases hb:hld a4 c=true
   ·rw [if_pos hb] at hst
    have HS:=Lib.hid hst;clear hst;have hx:=holds_calls a4 c w (HR.out _ (by simp)).1 (HR.out _ (by simp)).2 h2 h3;rw [hb] at hx;clear hb;go_wp2_with (go_at_call 214;refine hx.mono ?_;rintro e w1 ⟨rfl,rfl⟩)
    go_ret2;exact ⟨by rw [HS.out];rfl,rfl⟩
   ·rw [if_neg hb] at hst
    have hb':hld a4 c=false:=by simpa using hb
    have HS:=Lib.hid hst;clear hst hb;have hx:=holds_calls a4 c w (HR.out _ (by simp)).1 (HR.out _ (by simp)).2 h2 h3;rw [hb'] at hx;clear hb';go_wp2_with (go_at_call 214;refine hx.mono ?_;rintro e w1 ⟨rfl,rfl⟩)
    exact ⟨⟨5,5,rfl,by decide,by rfl,HS⟩,by simp [intOf]⟩
  ·obtain rfl:z=5:=hz
   have ix:∀w:World,(Instr.index 226 (.agg #[.int .u32 a0,.int .u32 a1,.int .u32 a2,.int .u32 a3,.int .u32 a4,.int .u32 a5,.int .u32 a6,.int .u32 a7]) (.int .i64 5)).run Tryz.prog w= .ok (.int .u32 a5) w:=fun _=>by kernel_rfl
   have hst:=find_step c [a0,a1,a2,a3,a4,a5,a6,a7] 5 (by simp)
   rw [←HF.out] at hst;simp only [List.getD_cons_zero,List.getD_cons_succ] at hst;clear HF
   by_cases hb:hld a5 c=true
   ·rw [if_pos hb] at hst
    have HS:=Lib.hid hst;clear hst;have hx:=holds_calls a5 c w (HR.out _ (by simp)).1 (HR.out _ (by simp)).2 h2 h3;rw [hb] at hx;clear hb;go_wp2_with (go_at_call 214;refine hx.mono ?_;rintro e w1 ⟨rfl,rfl⟩)
    go_ret2;exact ⟨by rw [HS.out];rfl,rfl⟩
   ·rw [if_neg hb] at hst
    have hb':hld a5 c=false:=by simpa using hb
    have HS:=Lib.hid hst;clear hst hb;have hx:=holds_calls a5 c w (HR.out _ (by simp)).1 (HR.out _ (by simp)).2 h2 h3;rw [hb'] at hx;clear hb';go_wp2_with (go_at_call 214;refine hx.mono ?_;rintro e w1 ⟨rfl,rfl⟩)
    exact ⟨⟨6,6,rfl,by decide,by rfl,HS⟩,by simp [intOf]⟩
  ·obtain rfl:z=6:=hz
   have ix:∀w:World,(Instr.index 226 (.agg #[.int .u32 a0,.int .u32 a1,.int .u32 a2,.int .u32 a3,.int .u32 a4,.int .u32 a5,.int .u32 a6,.int .u32 a7]) (.int .i64 6)).run Tryz.prog w= .ok (.int .u32 a6) w:=fun _=>by kernel_rfl
   have hst:=find_step c [a0,a1,a2,a3,a4,a5,a6,a7] 6 (by simp)
   rw [←HF.out] at hst;simp only [List.getD_cons_zero,List.getD_cons_succ] at hst;clear HF
   by_cases hb:hld a6 c=true
   ·rw [if_pos hb] at hst
    have HS:=Lib.hid hst;clear hst;have hx:=holds_calls a6 c w (HR.out _ (by simp)).1 (HR.out _ (by simp)).2 h2 h3;rw [hb] at hx;clear hb;go_wp2_with (go_at_call 214;refine hx.mono ?_;rintro e w1 ⟨rfl,rfl⟩)
    go_ret2;exact ⟨by rw [HS.out];rfl,rfl⟩
   ·rw [if_neg hb] at hst
    have hb':hld a6 c=false:=by simpa using hb
    have HS:=Lib.hid hst;clear hst hb;have hx:=holds_calls a6 c w (HR.out _ (by simp)).1 (HR.out _ (by simp)).2 h2 h3;rw [hb'] at hx;clear hb';go_wp2_with (go_at_call 214;refine hx.mono ?_;rintro e w1 ⟨rfl,rfl⟩)
    exact ⟨⟨7,7,rfl,by decide,by rfl,HS⟩,by simp [intOf]⟩
  ·obtain rfl:z=7:=hz
   have ix:∀w:World,(Instr.index 226 (.agg #[.int .u32 a0,.int .u32 a1,.int .u32 a2,.int .u32 a3,.int .u32 a4,.int .u32 a5,.int .u32 a6,.int .u32 a7]) (.int .i64 7)).run Tryz.prog w= .ok (.int .u32 a7) w:=fun _=>by kernel_rfl
   have hst:=find_step c [a0,a1,a2,a3,a4,a5,a6,a7] 7 (by simp)
   rw [←HF.out] at hst;simp only [List.getD_cons_zero,List.getD_cons_succ] at hst;clear HF
   by_cases hb:hld a7 c=true
   ·rw [if_pos hb] at hst
    have HS:=Lib.hid hst;clear hst;have hx:=holds_calls a7 c w (HR.out _ (by simp)).1 (HR.out _ (by simp)).2 h2 h3;rw [hb] at hx;clear hb;go_wp2_with (go_at_call 214;refine hx.mono ?_;rintro e w1 ⟨rfl,rfl⟩)
    go_ret2;exact ⟨by rw [HS.out];rfl,rfl⟩
   ·rw [if_neg hb] at hst
    have hb':hld a7 c=false:=by simpa using hb
    have HS:=Lib.hid hst;clear hst hb;have hx:=holds_calls a7 c w (HR.out _ (by simp)).1 (HR.out _ (by simp)).2 h2 h3;rw [hb'] at hx;clear hb';go_wp2_with (go_at_call 214;refine hx.mono ?_;rintro e w1 ⟨rfl,rfl⟩)
    exact ⟨⟨8,8,rfl,by decide,by rfl,HS⟩,by simp [intOf]⟩
  ·obtain rfl:z=8:=hz
   go_wp2;have hf:=HF.out;clear HF;simp only [List.drop_succ_cons,List.drop_zero,findFrom] at hf;go_ret2;exact ⟨by rw [hf];rfl,rfl⟩
end Win
end Go.Proofs.YtooiooledeblmaaGreat
