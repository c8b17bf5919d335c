/- codec.Decode by UTF-EBCDIC. The Feed of bocu.Decoder, at bytes that are right. BOCU-1's decoder: which differences begin so. BOCU-1's decoder: a byte. codec.Decode by BOCU-1. -/
import Derived.Test.YtooiooledeblmaaGreatZ21
set_option linter.unusedVariables false
set_option linter.unusedSimpArgs false
namespace Go.Proofs.YtooiooledeblmaaGreat
namespace Dcd
open Go.RowKit Win Stp Mach Dec Out
theorem m8_keep (r r2:M8) (x:Int) (em:List Int) (hI:m8I r) (h0:0≤x) (h1:x≤255) (hn:m8N r x=some (r2,em)):m8I r2∧em.length≤1:=by
 obtain ⟨i1,i2,i3,i4,i5,i6,i7,i8,i9,i10⟩:=hI;unfold m8N at hn
 split at hn
 ·split at hn
  ·simp only [Option.some.injEq,Prod.mk.injEq] at hn
   obtain ⟨rfl,rfl⟩:=hn;exact ⟨⟨i1,i2,i3,i4,i5,i6,i7,i8,i9,i10⟩,by simp⟩
  ·split at hn
   ·simp only [Option.some.injEq,Prod.mk.injEq] at hn
    obtain ⟨rfl,rfl⟩:=hn;refine ⟨?_,by simp⟩
    unfold m8L m8I
    (repeat' split) <;>(simp only;omega)
   ·cases hn
 ·split at hn
  ·cases hn
  ·split at hn
   ·simp only [Option.some.injEq,Prod.mk.injEq] at hn
    obtain ⟨rfl,rfl⟩:=hn;refine ⟨?_,by simp⟩
    unfold m8I;simp only;omega
   ·simp only [Option.some.injEq,Prod.mk.injEq] at hn
    obtain ⟨rfl,rfl⟩:=hn;refine ⟨?_,by simp⟩
    unfold m8I;simp only;omega
theorem m8_lead (r:M8) (x:Int) (hp:r.need=0) (h:(197≤x∧x≤223)∨(225≤x∧x≤249)):m8N r x=some (m8L x,[]):=by
 unfold m8N;rw [if_pos hp,if_neg (by omega),if_pos h]
theorem m8_last (b d x:Int) (gone:Bool) (h0:160≤x) (h1:x≤191) (hs:gone=true∨m8S b x=true):m8N ⟨1,b,d,gone⟩ x=some (⟨0,b,d*32+x%32,true⟩,[d*32+x%32]):=by
 simp only [m8N]
 rw [if_neg (by decide),if_neg,if_pos trivial]
 rintro (h|h|⟨h,k⟩)
 ·omega
 ·omega
 ·rcases hs with hs|hs
  ·rw [hs] at h;cases h
  ·rw [hs] at k;cases k
theorem m8_more (n b d x:Int) (gone:Bool) (h0:160≤x) (h1:x≤191) (hs:gone=true∨m8S b x=true) (hn:1<n):m8N ⟨n,b,d,gone⟩ x=some (⟨n-1,b,d*32+x%32,true⟩,[]):=by
 simp only [m8N]
 rw [if_neg (by omega),if_neg,if_neg (by omega)]
 rintro (h|h|⟨h,k⟩)
 ·omega
 ·omega
 ·rcases hs with hs|hs
  ·rw [hs] at h;cases h
  ·rw [hs] at k;cases k
theorem m8_one (q:Unit) (r:M8) (c:Int) (hp:r.need=0) (h0:0≤c) (hb:isB c=true):∃r',stepsR m8N r (mdB q c)=some (r',[c])∧r'.need=0:=by
 obtain ⟨b1,b2⟩:=isB_iff.1 hb
 show ∃r',stepsR m8N r (mod8B c)=some (r',[c])∧r'.need=0
 unfold mod8B
 split
 ·refine ⟨r,stepsR_one (e:=[c]) (e2:=[]) ?_ rfl,hp⟩
  unfold m8N;rw [if_pos hp,if_pos (by assumption)]
 ·have fin:∀(b d:Int),d=c→∃r':M8,(some ((⟨0,b,d,true⟩:M8),([d]:List Int))=some (r',[c]))∧r'.need=0:=by
   rintro b d rfl;exact ⟨_,rfl,rfl⟩
  by_cases k1:c<1024
  ·rw [show mT c=1 by unfold mT;rw [if_pos k1],show mL c=192 by unfold mL;rw [if_pos k1]]
   simp only [md,Int.pow_zero,Int.ediv_one,Int.pow_one]
   obtain ⟨r',hr,hn⟩:=fin (192+c/32) ((192+c/32)%32*32+(160+c%32)%32) (by omega)
   refine ⟨r',?_,hn⟩
   rw [←hr]
   refine stepsR_one (e:=[]) (m8_lead r _ hp (by omega)) ?_;rw [show m8L (192+c/32)=⟨1,192+c/32,(192+c/32)%32,false⟩ by unfold m8L;rw [if_pos (by omega)]]
   refine stepsR_one (e2:=[]) (m8_last _ _ _ _ (by omega) (by omega) (.inr ?_)) rfl;unfold m8S;rw [if_neg (by omega),if_neg (by omega),if_neg (by omega),if_neg (by omega)]
  ·by_cases k2:c<16384
   ·rw [show mT c=2 by unfold mT;rw [if_neg k1,if_pos k2],show mL c=224 by unfold mL;rw [if_neg k1,if_pos k2]]
    simp only [md,Int.pow_zero,Int.ediv_one,Int.pow_one,show (32:Int)^2=1024 from rfl]
    obtain ⟨r',hr,hn⟩:=fin (224+c/1024) (((224+c/1024)%16*32+(160+c/32%32)%32)*32+(160+c%32)%32) (by omega)
    refine ⟨r',?_,hn⟩
    rw [←hr]
    refine stepsR_one (e:=[]) (m8_lead r _ hp (by omega)) ?_;rw [show m8L (224+c/1024)=⟨2,224+c/1024,(224+c/1024)%16,false⟩ by unfold m8L;rw [if_neg (by omega),if_pos (by omega)]]
    refine stepsR_one (e:=[]) (m8_more _ _ _ _ _ (by omega) (by omega) (.inr ?_) (by decide)) ?_
    ·unfold m8S
     rw [if_neg (by omega),if_neg (by omega),if_neg (by omega),if_neg (by omega)]
    exact stepsR_one (e2:=[]) (m8_last _ _ _ _ (by omega) (by omega) (.inl rfl)) rfl
   ·by_cases k3:c<262144
    ·rw [show mT c=3 by unfold mT;rw [if_neg k1,if_neg k2,if_pos k3],show mL c=240 by unfold mL;rw [if_neg k1,if_neg k2,if_pos k3]]
     simp only [md,Int.pow_zero,Int.ediv_one,Int.pow_one,show (32:Int)^2=1024 from rfl,show (32:Int)^3=32768 from rfl]
     obtain ⟨r',hr,hn⟩:=fin (240+c/32768) ((((240+c/32768)%8*32+(160+c/1024%32)%32)*32+(160+c/32%32)%32)*32+(160+c%32)%32) (by omega)
     refine ⟨r',?_,hn⟩
     rw [←hr]
     refine stepsR_one (e:=[]) (m8_lead r _ hp (by omega)) ?_;rw [show m8L (240+c/32768)=⟨3,240+c/32768,(240+c/32768)%8,false⟩ by unfold m8L;rw [if_neg (by omega),if_neg (by omega),if_pos (by omega)]]
     refine stepsR_one (e:=[]) (m8_more _ _ _ _ _ (by omega) (by omega) (.inr ?_) (by decide)) ?_
     ·unfold m8S
      by_cases j1:240+c/32768=240
      ·rw [if_pos j1,decide_eq_true_eq];omega
      ·rw [if_neg j1]
       by_cases j2:240+c/32768=241
       ·rw [if_pos j2,decide_eq_true_eq];omega
       ·rw [if_neg j2,if_neg (by omega),if_neg (by omega)]
     refine stepsR_one (e:=[]) (m8_more _ _ _ _ _ (by omega) (by omega) (.inl rfl) (by decide)) ?_;exact stepsR_one (e2:=[]) (m8_last _ _ _ _ (by omega) (by omega) (.inl rfl)) rfl
    ·rw [show mT c=4 by unfold mT;rw [if_neg k1,if_neg k2,if_neg k3],show mL c=248 by unfold mL;rw [if_neg k1,if_neg k2,if_neg k3]]
     simp only [md,Int.pow_zero,Int.ediv_one,Int.pow_one,show (32:Int)^2=1024 from rfl,show (32:Int)^3=32768 from rfl,show (32:Int)^4=1048576 from rfl]
     obtain ⟨r',hr,hn⟩:=fin (248+c/1048576) (((((248+c/1048576)%4*32+(160+c/32768%32)%32)*32+(160+c/1024%32)%32)*32+(160+c/32%32)%32)*32+(160+c%32)%32) (by omega)
     refine ⟨r',?_,hn⟩
     rw [←hr]
     refine stepsR_one (e:=[]) (m8_lead r _ hp (by omega)) ?_;rw [show m8L (248+c/1048576)=⟨4,248+c/1048576,(248+c/1048576)%4,false⟩ by unfold m8L;rw [if_neg (by omega),if_neg (by omega),if_neg (by omega)]]
     refine stepsR_one (e:=[]) (m8_more _ _ _ _ _ (by omega) (by omega) (.inr ?_) (by decide)) ?_
     ·unfold m8S
      rw [if_neg (by omega),if_neg (by omega)]
      by_cases j1:248+c/1048576=248
      ·rw [if_pos j1,decide_eq_true_eq];omega
      ·rw [if_neg j1,if_pos (by omega),decide_eq_true_eq];omega
     refine stepsR_one (e:=[]) (m8_more _ _ _ _ _ (by omega) (by omega) (.inl rfl) (by decide)) ?_;refine stepsR_one (e:=[]) (m8_more _ _ _ _ _ (by omega) (by omega) (.inl rfl) (by decide)) ?_;exact stepsR_one (e2:=[]) (m8_last _ _ _ _ (by omega) (by omega) (.inl rfl)) rfl
theorem dend6 {w:World} {g gt:Nat} {b:B4} {r:M8} (hr:r.need=0) (h:InAt 202 w g 0 nilS b [] (m8R gt r)) (hb:b.going=true):
  Calls Tryz.prog 244 #[.pointer (some ⟨g,0,none⟩)] w fun e w'=>e= .returned (.tuple #[])∧InAt 202 w' g 0 nilS {b with fin:=true} [] (m8R gt r)∧Chg (IS g nilS) w w':=by
 have h5:w.cell? ⟨g,5,none⟩=some (.int .i64 r.need):=h.cell 0;rw [hr] at h5;have HE:=Lib.hid (bend_in h hb)
 clear h hb hr;go_enter Tryz.func244,Tryz.ntmps244;go_wp2_with fail;refine HE.out.mono ?_;rintro e w1 ⟨rfl,hd,hc⟩
 have HD:=Lib.hid hd;have HC:=Lib.hid hc;clear hd hc;go_wp2_with fail;go_end0;exact ⟨rfl,HD.out,HC.out⟩
set_option maxHeartbeats 8000000 in
theorem feed6 {w:World} {g gt:Nat} {l:List Int} {rE:M8} {oE:List Int} (h:InAt 202 w g 0 nilS Dec.b40 [] (m8R gt ⟨0,0,0,false⟩)) (ht:TabAt w gt) (hgt:gt≠g) (hr:∀x∈l,0≤x∧x≤255) (hl:l.length≤4000)
  (hst:stepsR m8N ⟨0,0,0,false⟩ (l.map frF)=some (rE,oE)):
  Calls Tryz.prog 245 #[.pointer (some ⟨g,0,none⟩),.string (strOfNums l),.int .i64 4096] w (InFed 202 (m8R gt) g (strOfNums l).size rE oE w):=by
 have h9:w.cell? ⟨g,9,none⟩=some (.pointer (some ⟨gt,0,none⟩)):=h.cell 4;have hfr:∀x∈l.map frF,0≤x∧x≤255:=by
  intro x hx;obtain ⟨y,hy,rfl⟩:=List.mem_map.1 hx;exact fr_rng (hr y hy).1 (hr y hy).2
 have hsz:=str_size l;have hsz2:(strOfNums (l.map frF)).size=(strOfNums l).size:=by rw [str_size,str_size,List.length_map]
 have HF:=Lib.hid (fun (w1:World) (h1:InAt 202 w1 g 0 nilS Dec.b40 [] (m8R gt ⟨0,0,0,false⟩))=>dfeed_mod8 (strOfNums (l.map frF)) 4096 h1 (I:=m8I) (by simp [m8I]) (fun r r2 x em w rb v b l hI hh x0 x1 hl hn=>nextm_calls x hh hI x0 x1 hl hn) (fun r r2 x em hI x0 x1 hn=>m8_keep r r2 x em hI x0 x1 hn) (by rw [byt_nums hfr];exact hst) (by rw [hsz2,hsz];exact hl) rfl)
 have HB:=Lib.hid (fun wy (hy:TabAt wy gt)=>back_calls gt l wy hy (by omega) hr)
 have HT:=Lib.hid ht;have H:=Lib.hid h;have HS2:=Lib.hid hsz2;obtain ⟨S0,hS0⟩:∃S,S=strOfNums l:=⟨_,rfl⟩
 obtain ⟨S1,hS1⟩:∃S,S=strOfNums (l.map frF):=⟨_,rfl⟩
 rw [←hS0] at HB HS2 ⊢;rw [←hS1] at HB HF HS2;clear hS0 hS1 hsz hsz2 h ht hfr hst hr;go_enter Tryz.func245,Tryz.ntmps245;go_wp2_with fail;go_region_with (first
  |(go_at_call 247;refine (HB.out w.drew HT.out).mono ?_;rintro e w1 ⟨rfl,hb1⟩;have HB1:=Lib.hid hb1;have H1:=Lib.hid ((H.out.drewN 1).keep hb1.size (hb1.block _ H.out.lt) (fun k hk=>by simp [Value.ownBlock] at hk));clear hb1)
  |(go_at_call 246;refine (HF.out _ H1.out).mono ?_;rintro e w2 ⟨A,c,rfl,hd2,hc2,ho2⟩;have HD2:=Lib.hid hd2;have HC2:=Lib.hid hc2;have HO2:=Lib.hid ho2;clear hd2 hc2 ho2))
 all_goals
  go_wp2_with fail;go_ret2;refine ⟨A,c,by rw [HS2.out];rfl,by rw [←HS2.out];exact HD2.out,?_,own_weaken HO2.out HB1.out.size⟩
  exact ((Chg.drew _).trans (Chg.of_below HB1.out)).trans HC2.out
theorem rdy_in2 {T:TypeId} {R:Type} {rest:R→List Value} {F E g:Nat} {s:ByteArray} {oE:List Int} {r0 rE:R} {w1:World} (hd:InAt T w1 g 0 nilS Dec.b40 [] (rest r0))
  (hf:∀wy,Below w1.heap.size w1 wy→InAt T wy g 0 nilS Dec.b40 [] (rest r0)→Calls Tryz.prog F #[.pointer (some ⟨g,0,none⟩),.string s,.int .i64 4096] wy (InFed T rest g s.size rE oE wy))
  (he:∀w b,InAt T w g 0 nilS b [] (rest rE)→b.going=true→Calls Tryz.prog E #[.pointer (some ⟨g,0,none⟩)] w (fun e w'=>e= .returned (.tuple #[])∧InAt T w' g 0 nilS {b with fin:=true} [] (rest rE)∧Chg (IS g nilS) w w')):
  RdyG F E (IS g nilS) g s oE [] w1:=by
 intro wy hy;have hdy:=hd.keep hy.size (hy.block _ hd.lt) (fun k hk=>by simp [Value.ownBlock] at hk)
 refine (hf wy hy hdy).mono ?_;rintro e w2 ⟨A,c,rfl,hd2,hc2,ho2⟩
 refine ⟨A,c,rfl,hc2,told_own ho2,?_⟩
 intro w3 h3;have hd3:=hd2.keep h3.size (h3.block _ hd2.lt) (fun k hk=>by simp [Value.ownBlock] at hk)
 refine (he w3 _ hd3 rfl).mono ?_;rintro e w4 ⟨rfl,hd4,hc4⟩
 exact ⟨rfl,hc4,fun _=>over_in hd4 rfl rfl rfl,fun h=>absurd rfl h⟩
theorem mkd6 (v:Value) (w:World):(Instr.makeInterface 132 v).run Tryz.prog w= .ok (.iface 132 v) w:=run_makeInterface w 132 v (by kernel_rfl)
def New6 (w:World) (e:Ending) (w':World):Prop:=∃g,w.heap.size<g∧e= .returned (.pointer (some ⟨g,0,none⟩))∧InAt 202 w' g 0 nilS Dec.b40 [] (m8R w.heap.size ⟨0,0,0,false⟩)∧TabAt w' w.heap.size∧Below w.heap.size w w'
theorem dnew6 (w:World):Calls Tryz.prog 73 #[] w (New6 w):=by
 go_enter Tryz.func73,Tryz.ntmps73;go_wp2_with fail;refine (perm_new _).mono ?_;rintro e w1 ⟨rfl,ht,hb⟩
 have hlt:w.heap.size<w1.heap.size:=(Array.getElem?_eq_some_iff.1 ht).1;go_wp2_with fail;go_ret;exact ⟨_,hlt,rfl,⟨heap_alloc_new _ _,World.ownsRow_nil _ _ _ _,fun _=>rfl,Nat.zero_le _,by decide⟩,(Below.heap_alloc _ _ _ hlt).trans ht,hb.alloc (by omega) _⟩
theorem disp6:Disp 132 245 244:=
 ⟨fun _ _=>by kernel_rfl,fun _ _=>by kernel_rfl,fun _ _=>by kernel_rfl,fun _ _=>by kernel_rfl,fun _ _ _ _=>by kernel_rfl,fun _ _=>by kernel_rfl⟩
section
attribute [local go_sem] mkd6
theorem newG_6 {l:List Int} {out:List Int} {rE:M8} (hr:∀x∈l,0≤x∧x≤255) (hl:l.length≤4000) (hst:stepsR m8N ⟨0,0,0,false⟩ (l.map frF)=some (rE,out)) (hE:rE.need=0) (w:World):
  Calls Tryz.prog 37 #[.int .i64 6] w (NewG 132 245 244 (strOfNums l) out [] w):=by
 go_enter Tryz.func37,Tryz.ntmps37;go_wp2_with fail;refine (dnew6 _).mono ?_;rintro e w1 ⟨g,hlt,rfl,hd,ht,hb⟩
 go_wp2_with fail;go_ret2;have htl:w.heap.size<w1.heap.size:=(Array.getElem?_eq_some_iff.1 ht).1;exact ⟨g,IS g nilS,fun i hi=>is_lt (Nat.le_of_lt hlt) hd.lt hi,Nat.le_of_lt hlt,hd.lt,rfl,hb,
  rdy_in2 hd (fun wy hb hy=>feed6 hy ((hb.block _ htl).trans ht) (by omega) hr hl hst) (fun w b hh hb=>dend6 hE hh hb)⟩
end
theorem decode_6 {l:List Int} (hl:l.length≤400) (hs:∀x∈l,0≤x∧isB x=true) (w:World):Calls Tryz.prog 18 #[.int .i64 6,.string (strOfNums (encS 6 l))] w (DecG w l):=by
 have hlen:=told_len (B:=mdB) unN (fun _ c=>mod8B_len c) l ()
 have hrn:=Out.told_rng (B:=mdB) (N:=unN) l () (fun x hx r=>mod8B_rng (hs x hx).1 (hs x hx).2)
 obtain ⟨rE,h1,h2⟩:=stepsR_told (M:=unN) (P:=fun _ (r:M8)=>r.need=0) m8_one l () ⟨0,0,0,false⟩ rfl hs;have he:encS 6 l=(told mdB unN () l).map toF:=told_map (B:=mdB) (N:=unN) toF l ()
 rw [he]
 have hto:∀x∈(told mdB unN () l).map toF,0≤x∧x≤255:=by
  intro x hx;obtain ⟨y,hy,rfl⟩:=List.mem_map.1 hx;exact toF_rng (hrn y hy).1 (hrn y hy).2
 have hback:((told mdB unN () l).map toF).map frF=told mdB unN () l:=by
  rw [List.map_map]
  refine (List.map_congr_left fun x hx=>?_).trans (List.map_id _)
  exact fr_to (hrn x hx).1 (hrn x hx).2
 have hsz:=str_size ((told mdB unN () l).map toF)
 rw [List.length_map] at hsz;have h:=decode_any (w:=w) disp6 (newG_6 (l:=(told mdB unN () l).map toF) (out:=l) hto (by rw [List.length_map];exact Nat.le_trans hlen (by omega)) (by rw [hback];exact h1) h2) (by omega) (by simp) (by rw [hsz];exact Nat.le_trans hlen (by omega))
 rwa [List.append_nil] at h
end Dcd
namespace Dcd
open Go.RowKit Win Stp Mach Dec Go.Proofs.YtooiooledeblmaaGreatW.PrintMore
set_option maxRecDepth 100000 in
set_option maxHeartbeats 8000000 in
theorem dfeed_bocu {T:TypeId} {R:Type} {rest:R→List Value} {N:R→Int→Option (R×List Int)} {I:R→Prop} {r0 rE:R} {oE:List Int} {w:World} {g:Nat} (s:ByteArray) (room:Int) (h:InAt T w g 0 nilS b40 [] (rest r0)) (hI:I r0)
  (hnx:∀(r r2:R) (x:Int) (em:List Int) (w:World) (rb:Nat) (v:Value) (b:B4) (l:List Int),I r→InAt T w g rb v b l (rest r)→0≤x→x≤255→l.length≤100000→N r x=some (r2,em)→
   Calls Tryz.prog 265 #[.pointer (some ⟨g,0,none⟩),.int .u8 x] w (NextPost T rest g rb v b l w r2 em))
  (hIN:∀(r r2:R) (x:Int) (em:List Int),I r→0≤x→x≤255→N r x=some (r2,em)→I r2∧em.length≤1)
  (hst:stepsR N r0 (byt s)=some (rE,oE)) (hs:s.size≤4000) (hr:room=4096):
  Calls Tryz.prog 264 #[.pointer (some ⟨g,0,none⟩),.string s,.int .i64 room] w (InFed T rest g s.size rE oE w):=by
 have hrm:4096≤room:=by omega
 clear hr;have H:=Lib.hid h;have HI:=Lib.hid hI;have HNx:=Lib.hid hnx;have HIN:=Lib.hid hIN;have HST:=Lib.hid hst;clear h hI hnx hIN hst;go_enter Tryz.func264,Tryz.ntmps264;go_upto_block 0 with fail;go_cut [8] (fun i wx=>InMid T rest g s.size rE oE w i wx∧oE.length≤4000)
 case first=>
  go_wp2_with fail;go_loopw [8] (fun i wr=>InRel T rest N I g s rE oE w i wr) (fun i _=>s.size-(intOf i).toNat)
  case atStart=>
   exact ⟨0,nilS,r0,[],oE,Nat.zero_le _,rfl,H.out.rebase w.heap.size (Nat.le_refl _),HI.out,Chg.refl _,HST.out,rfl,Nat.zero_le _⟩
  case round=>
   obtain ⟨k,v,r,o,o2,hk,rfl,hd,hi,hc,hst,hoe,hol⟩:=hrel;have HD:=Lib.hid hd;have HI':=Lib.hid hi;have HC:=Lib.hid hc;have HST':=Lib.hid hst;have HOe:=Lib.hid hoe;obtain ⟨A,c0,hv⟩:∃A c,v= .slice A o.length c:=by
    rcases hd.row.2 with ⟨h1,h2⟩|⟨g',cap,cur,h1,_⟩
    ·exact ⟨none,0,by rw [h1,h2]⟩
    ·exact ⟨_,_,h1⟩
   have h4:=hd.c4;rw [hv] at h4;have HV:=Lib.hid hv;have hheld:=held_calls g 4 A o.length c0 wr h4;have HH:=Lib.hid hheld;have hgoing:=going_calls g _ wr hd.base;have hge:({b40 with at_:=(k:Int)}:B4).going=true:=rfl;rw [hge] at hgoing;have HGg:=Lib.hid hgoing;clear hd hi hc hst hoe hv h4 hheld hge hgoing
   by_cases hlt:k<s.size
   ·have hdc:(byt s).drop k=(s[k].toNat:Int)::(byt s).drop (k+1):=by
     rw [List.drop_eq_getElem_cons (by rw [byt_length];exact hlt)]
     have:=byt_at s k hlt;rw [List.getD_eq_getElem?_getD,List.getElem?_eq_getElem (by rw [byt_length];exact hlt)] at this;rw [←this];rfl
    have hst2:=HST'.out;rw [hdc] at hst2;obtain ⟨r2,em,e2,q1,q2,q3⟩:=stepsR_cons hst2;obtain ⟨hi2,hem⟩:=HIN.out r r2 _ em HI'.out (by omega) (by have:=s[k].toNat_lt;omega) q1;have HN:=Lib.hid (HNx.out r r2 (s[k].toNat:Int) em wr w.heap.size v _ o HI'.out HD.out (by omega) (by have:=s[k].toNat_lt;omega) (by omega) q1)
    have HQ:=Lib.hid (And.intro q2 q3)
    have HI2:=Lib.hid hi2;clear hdc hst2 q1 q2 q3 hi2;have hrm2:(o.length:Int)<room:=by omega
    go_wp2_with fail;refine HH.out.mono ?_;rintro e w1 ⟨rfl,rfl⟩
    go_wp2_with fail;refine HGg.out.mono ?_;rintro e w1 ⟨rfl,rfl⟩
    go_wp2_with fail;refine HN.out.mono ?_;rintro e w2 ⟨rfl,v2,hd2,hc2⟩
    have heat:=eat_calls g _ 1 w2 hd2.base rfl (by decide) (by decide) (show (0:Int)≤(k:Int) by omega) (show (k:Int)≤1000000000 by omega)
    have HEt:=Lib.hid heat;have HD2:=Lib.hid hd2;have HC2:=Lib.hid hc2;clear heat hd2 hc2;go_wp2_with fail;refine HEt.out.mono ?_;rintro e w3 ⟨rfl,rfl⟩
    go_wp2_with fail;go_roundw
    case rel=>
     refine ⟨k+1,v2,r2,o++em,e2,by omega,by go_num,?_,HI2.out,?_,HQ.out.1,?_,?_⟩
     ·have:=HD2.out.set 0 (.int .i64 ((k:Int)+1)) (b':={b40 with at_:=((k+1:Nat):Int)}) (rs':=rest r2) (by simp [inCells])
      exact this
     ·exact chg_then HC.out (HC2.out.trans (is_g 0 _)) (fun i hi hh=>is_new HD.out.row hi hh)
     ·rw [HOe.out,HQ.out.2,List.append_assoc]
     ·rw [List.length_append];omega
    case measure=>simp [intOf];omega
   ·obtain rfl:k=s.size:=by omega
    clear hlt;have hdn:(byt s).drop s.size=[]:=by rw [←byt_length,List.drop_length]
    have hst2:=HST'.out;rw [hdn] at hst2;simp only [stepsR,Option.some.injEq,Prod.mk.injEq] at hst2;obtain ⟨rfl,rfl⟩:=hst2;have ho:=HOe.out;rw [List.append_nil] at ho;subst ho;clear hdn;go_wp2_with fail;go_meet;exact ⟨⟨v,rfl,HD.out,HC.out⟩,by omega⟩
 case rest=>
  obtain ⟨⟨v,rfl,hd,hc⟩,hol⟩:=hcut;have HD:=Lib.hid hd;have HC:=Lib.hid hc;have h4:=hd.c4;have f4:=hd.fz 4;have hnil:=hd.nil
  by_cases ho:oE=[]
  ·have hvn:=hnil ho
   rw [hvn] at h4;have ht:=tell_none g 4 room wc h4 f4;have HT:=Lib.hid ht;have HO:=Lib.hid ho;clear hd hc h4 f4 hnil ho hvn ht;go_wp2_with fail;refine HT.out.mono ?_;rintro e w1 ⟨rfl,rfl⟩
   go_wp2_with fail;go_ret2;obtain rfl:=HO.out;exact ⟨none,0,rfl,HD.out.told (Below.refl _ _) nilS,chg_then HC.out ((is_g (v:=nilS) 4 _).trans (is_g 4 _)) (fun i _ hi=>hi),World.ownsRow_nil _ _ _ _⟩
  ·have hpos:0<oE.length:=by
    rcases Nat.eq_zero_or_pos oE.length with h|h
    ·exact absurd (List.eq_nil_of_length_eq_zero h) ho
    ·exact h
   obtain ⟨r,c,hv,_,_⟩:=hd.row.form hpos;have hrow:=hd.row;have hrg:=hd.row_g;rw [hv] at h4 hrow hrg;have hne:r≠g:=fun e=>hrg (by rw [e];rfl)
   have ht:=tell_all g 4 r w.heap.size c oE room wc h4 f4 hrow hne hpos (by omega) (by omega)
   have HT:=Lib.hid ht;clear hd hc h4 f4 hnil ho hv ht hrow hrg hne;go_wp2_with fail;refine HT.out.mono ?_;rintro e w1 ⟨r1,c1,w2,v1,rfl,rfl,hown,hb⟩
   have HOW:=Lib.hid hown;have HB:=Lib.hid hb;clear hown hb;go_wp2_with fail;go_ret2;have hlt:=HOW.out.lt r1 rfl;have hgl:=HD.out.lt;refine ⟨some ⟨r1,0,none⟩,c1,rfl,HD.out.told HB.out v1,?_,?_⟩
   ·exact chg_then HC.out (((Chg.of_below HB.out).trans (is_g (v:=nilS) 4 _)).trans (is_g 4 _)) (fun i _ hi=>hi)
   ·have h1:=own_weaken HOW.out HC.out.size
    refine h1.kept (w':=_) (row:=some g) ⟨rfl,rfl,rfl,by simp [World.setCell],fun q hq hn=>?_⟩ (.inr (by simp [Value.ownBlock];omega))
    exact (Below.heap_setCell _ _ _ q (fun e=>hn (by rw [e]))).trans (Below.heap_setCell _ _ _ q (fun e=>hn (by rw [e])))
end Dcd
namespace Dcd
open Go.RowKit Win Stp Mach Dec Out Go.Proofs.YtooiooledeblmaaGreatW.PrintMore
attribute [local go_sem] max2_int min2_int max_two min_two
def isTr (b:Int):Prop:=33≤b∨(28≤b∧b≤31)∨(16≤b∧b≤25)∨(1≤b∧b≤6)
instance (b:Int):Decidable (isTr b):=by unfold isTr;infer_instance
def worthC (b:Int):Int:=if 33≤b then b-13 else if 28≤b then b-12 else if 16≤b then b-10 else b-1
theorem worth_rng {b:Int} (h:isTr b) (h1:b≤255):0≤worthC b∧worthC b≤242:=by
 unfold isTr at h;unfold worthC
 (repeat' split) <;>omega
theorem trail_calls (b:Int) (h:isTr b) (h1:b≤255) (w:World):Calls Tryz.prog 269 #[.int .u8 b] w fun e w'=>e= .returned (.tuple #[.int .i64 (worthC b),.bool true])∧w=w':=by
 unfold worthC;rcases h with h|⟨h,h2⟩|⟨h,h2⟩|⟨h,h2⟩
 ·rw [if_pos h]
  have e:b-33+20=b-13:=by omega
  go_enter Tryz.func269,Tryz.ntmps269;go_wp2_with fail;go_ret2;exact ⟨rfl,rfl⟩
 ·rw [if_neg (by omega),if_pos h]
  have e:b-28+16=b-12:=by omega
  go_enter Tryz.func269,Tryz.ntmps269;go_wp2_with fail;go_ret2;exact ⟨rfl,rfl⟩
 ·rw [if_neg (by omega),if_neg (by omega),if_pos h]
  have e:b-16+6=b-10:=by omega
  go_enter Tryz.func269,Tryz.ntmps269;go_wp2_with fail;go_ret2;exact ⟨rfl,rfl⟩
 ·rw [if_neg (by omega),if_neg (by omega),if_neg (by omega)]
  go_enter Tryz.func269,Tryz.ntmps269;go_wp2_with fail;go_ret2;exact ⟨rfl,rfl⟩
def firstC (n:Int):Int×Nat:=
 if 254≤n then (187660,3) else if 251≤n then (10513+(n-251)*243*243,2) else if 208≤n then (64+(n-208)*243,1) else if 80≤n then (n-144,0)
 else if 37≤n then (-64+(n-80)*243,1) else if 34≤n then (-10513+(n-37)*243*243,2) else (-14536567,3)
theorem first_in {n:Int} (h0:33≤n) (h1:n≤254): -14536567≤(firstC n).1∧(firstC n).1≤187660∧(firstC n).2≤3:=by
 unfold firstC
 (repeat' split) <;>(simp only;omega)
theorem lead_calls (n:Int) (h0:33≤n) (h1:n≤254) (w:World):Calls Tryz.prog 268 #[.int .u8 n] w fun e w'=>e= .returned (.tuple #[.int .i64 (firstC n).1,.int .i64 ((firstC n).2:Nat)])∧w=w':=by
 unfold firstC;have hc:254≤n∨(251≤n∧n<254)∨(208≤n∧n<251)∨(80≤n∧n<208)∨(37≤n∧n<80)∨(34≤n∧n<37)∨n<34:=by omega
 rcases hc with h|⟨h,k⟩|⟨h,k⟩|⟨h,k⟩|⟨h,k⟩|⟨h,k⟩|h
 ·rw [if_pos h]
  go_enter Tryz.func268,Tryz.ntmps268;go_wp2_with fail;go_ret2;exact ⟨rfl,rfl⟩
 ·rw [if_neg (by omega),if_pos h]
  go_enter Tryz.func268,Tryz.ntmps268;go_wp2_with fail;go_ret2;exact ⟨rfl,rfl⟩
 ·rw [if_neg (by omega),if_neg (by omega),if_pos h]
  go_enter Tryz.func268,Tryz.ntmps268;go_wp2_with fail;go_ret2;exact ⟨rfl,rfl⟩
 ·rw [if_neg (by omega),if_neg (by omega),if_neg (by omega),if_pos h]
  go_enter Tryz.func268,Tryz.ntmps268;go_wp2_with fail;go_ret2;exact ⟨rfl,rfl⟩
 ·rw [if_neg (by omega),if_neg (by omega),if_neg (by omega),if_neg (by omega),if_pos h]
  go_enter Tryz.func268,Tryz.ntmps268;go_wp2_with fail;go_ret2;exact ⟨rfl,rfl⟩
 ·rw [if_neg (by omega),if_neg (by omega),if_neg (by omega),if_neg (by omega),if_neg (by omega),if_pos h]
  go_enter Tryz.func268,Tryz.ntmps268;go_wp2_with fail;go_ret2;exact ⟨rfl,rfl⟩
 ·rw [if_neg (by omega),if_neg (by omega),if_neg (by omega),if_neg (by omega),if_neg (by omega),if_neg (by omega)]
  go_enter Tryz.func268,Tryz.ntmps268;go_wp2_with fail;go_ret2;exact ⟨rfl,rfl⟩
def vS (q:List Int):Nat→Int×Int
 |0=>(0,1)
 |i+1=>if i+1<q.length then ((vS q i).1*243+worthC (q.getD (i+1) 0),(vS q i).2) else ((vS q i).1*243,(vS q i).2*243)
theorem vS_in (q:List Int) (h:∀j,0<j→j<q.length→isTr (q.getD j 0)∧q.getD j 0≤255):∀i,i≤3→0≤(vS q i).1∧(vS q i).1<243^i∧1≤(vS q i).2∧(vS q i).2≤243^i
 |0,_=>by simp [vS]
 |i+1,hi=>by
  obtain ⟨a,b,c,d⟩:=vS_in q h i (by omega)
  have hk:i=0∨i=1∨i=2:=by omega
  rw [vS]
  split
  ·rename_i hl
   have hw:=h (i+1) (by omega) hl;have hw2:=worth_rng hw.1 hw.2;simp only;generalize worthC (q.getD (i+1) 0)=W at hw2;rcases hk with rfl|rfl|rfl <;>simp at b d ⊢<;>omega
  ·rcases hk with rfl|rfl|rfl <;>simp at b d ⊢<;>omega
def rangeC (q:List Int):Int×Int×Nat:=((firstC (q.getD 0 0)).1+(vS q (firstC (q.getD 0 0)).2).1,(firstC (q.getD 0 0)).1+(vS q (firstC (q.getD 0 0)).2).1+(vS q (firstC (q.getD 0 0)).2).2-1,(firstC (q.getD 0 0)).2+1)
structure Begun (q:List Int):Prop where
 ne:0<q.length
 lo:33≤q.getD 0 0
 hi:q.getD 0 0≤254
 len:q.length≤(firstC (q.getD 0 0)).2+1
 tr:∀j,0<j→j<q.length→isTr (q.getD j 0)∧q.getD j 0≤255
def RngPost (q:List Int) (w:World) (e:Ending) (w':World):Prop:=e= .returned (.tuple #[.int .i64 (rangeC q).1,.int .i64 (rangeC q).2.1,.int .i64 ((rangeC q).2.2:Nat),.bool true])∧w=w'
theorem toList_loop (s:ByteArray):∀(n i:Nat) (r:List UInt8),s.size-i=n→ByteArray.toList.loop s i r=[]→r=[]∧s.size≤i:=by
 intro n
 induction n with
 |zero=>
  intro i r hn h;unfold ByteArray.toList.loop at h;rw [if_neg (by omega)] at h;exact ⟨by simpa using h,by omega⟩
 |succ n ih=>
  intro i r hn h;unfold ByteArray.toList.loop at h;rw [if_pos (by omega)] at h;have:=(ih (i+1) _ (by omega) h).1
  cases this
theorem toList_nil {s:ByteArray} (h:s.toList=[]):s.size=0:=by
 have:=(toList_loop s _ 0 [] rfl h).2;omega
def RgRel (q:List Int) (t:Nat) (v8 v9 v10:Value):Prop:=∃i:Nat,i≤t∧v8= .int .i64 (vS q i).1∧v9= .int .i64 (vS q i).2∧v10= .int .i64 ((i:Int)+1)
theorem range_calls (s:ByteArray) (h:Begun (byt s)) (w:World):Calls Tryz.prog 266 #[.string s] w (RngPost (byt s) w):=by
 have hn:=h.ne;have h33:=h.lo;have h254:=h.hi;have hlen:=h.len;have htr:=h.tr;have hvs:=vS_in (byt s) h.tr;rw [byt_length] at hn hlen;have h0:=byt_at s 0 hn;unfold RngPost rangeC;rw [h0] at h33 h254 hlen ⊢;have hf:=first_in h33 h254;have hfc:=lead_calls (s[0].toNat:Int) h33 h254;generalize firstC (s[0].toNat:Int)=ft at hf hfc hlen ⊢;obtain ⟨fr,t⟩:=ft
 dsimp only at hf hfc hlen ⊢
 obtain ⟨f1,f2,f3⟩:=hf;have HF:=Lib.hid hfc;have HV:=Lib.hid hvs;have HT:=Lib.hid htr;have H0:=Lib.hid h0;have hne:¬s.toList=[]:=fun h=>by have:=toList_nil h;omega
 have hne2:s.toList.isEmpty=false:=by rw [List.isEmpty_eq_false_iff];exact hne
 clear hfc hvs htr h0 h;go_enter Tryz.func266,Tryz.ntmps266;go_wp2_with fail;refine (HF.out _).mono ?_;rintro e w1 ⟨rfl,rfl⟩
 go_wp2_with fail;clear hne hne2;go_loopw [8,9,10] (fun v8 v9 v10 wr=>RgRel (byt s) t v8 v9 v10∧w=wr) (fun _ _ v10 _=>t+1-(intOf v10).toNat)
 case atStart=>exact ⟨⟨0,Nat.zero_le _,rfl,rfl,rfl⟩,rfl⟩
 case round=>
  obtain ⟨⟨i,hi,rfl,rfl,rfl⟩,rfl⟩:=hrel;obtain ⟨a,b,c,d⟩:=HV.out i (by omega)
  have hv3:(vS (byt s) i).1≤14348907∧(vS (byt s) i).2≤14348907:=by
   have hk:i=0∨i=1∨i=2∨i=3:=by omega
   rcases hk with rfl|rfl|rfl|rfl <;>simp at b d <;>omega
  obtain ⟨hv1,hv2⟩:=hv3;clear b d
  by_cases hlt:i+1≤t
  ·have hnx:vS (byt s) (i+1)=if i+1<s.size then ((vS (byt s) i).1*243+worthC ((byt s).getD (i+1) 0),(vS (byt s) i).2) else ((vS (byt s) i).1*243,(vS (byt s) i).2*243):=by rw [vS,byt_length]
   generalize vS (byt s) i=vs at a c hv1 hv2 hnx ⊢;obtain ⟨V,S⟩:=vs
   dsimp only at a c hv1 hv2 hnx ⊢
   by_cases hl2:i+1<s.size
   ·rw [if_pos hl2,byt_at s (i+1) hl2] at hnx
    have htr:=HT.out (i+1) (by omega) (by rw [byt_length];exact hl2)
    rw [byt_at s (i+1) hl2] at htr;have hw:=worth_rng htr.1 htr.2;have HTr:=Lib.hid (fun w=>trail_calls (s[i+1].toNat:Int) htr.1 htr.2 w)
    have HNx:=Lib.hid hnx;clear hnx htr;generalize worthC (s[i+1].toNat:Int)=W at HTr HNx hw;obtain ⟨hw1,hw2⟩:=hw;go_wp2_with fail;refine (HTr.out _).mono ?_;rintro e w1 ⟨rfl,rfl⟩
    go_wp2_with fail;go_roundw
    case rel=>exact ⟨⟨i+1,hlt,by rw [HNx.out],by rw [HNx.out],by go_num⟩,trivial⟩
    case measure=>simp [intOf];omega
   ·rw [if_neg hl2] at hnx
    have HNx:=Lib.hid hnx;clear hnx;go_wp2_with fail;go_roundw
    case rel=>exact ⟨⟨i+1,hlt,by rw [HNx.out],by rw [HNx.out],by go_num⟩,trivial⟩
    case measure=>simp [intOf];omega
  ·obtain rfl:i=t:=by omega
   generalize hvs:vS (byt s) i=vs at a c hv1 hv2 ⊢;obtain ⟨V,S⟩:=vs
   dsimp only at a c hv1 hv2 ⊢
   have HVs:=Lib.hid hvs;clear hvs;go_wp2_with fail;refine bodyPost_ret (v:=.tuple #[.int .i64 (fr+V),.int .i64 (fr+V+S-1),.int .i64 ((i+1:Nat):Int),.bool true]) (by simp [results,Tryz.results266,go_sem]) rfl ⟨by rw [HVs.out],rfl⟩
end Dcd
namespace Dcd
open Go.RowKit Win Stp Mach Dec Out Go.Proofs.YtooiooledeblmaaGreatW.PrintMore
attribute [local go_sem] max2_int min2_int max_two min_two
def someL (lo:Int):Int:=if lo<33 then 33 else if 55296≤lo∧lo<57344 then 57344 else lo
def someB (lo hi:Int):Bool:=decide (someL lo≤hi)&&decide (someL lo≤1114111)
theorem some_calls (lo hi:Int) (h0: -100000000≤lo) (h1:lo≤100000000) (h2: -100000000≤hi) (h3:hi≤100000000) (h:someB lo hi=true) (w:World):Calls Tryz.prog 267 #[.int .i64 lo,.int .i64 hi] w fun e w'=>e= .returned (.bool true)∧w'=w:=by
 unfold someB at h;rw [Bool.and_eq_true,decide_eq_true_eq,decide_eq_true_eq] at h;obtain ⟨k1,k2⟩:=h;have k3:(lo<33→33≤hi)∧(33≤lo∧(lo<55296∨57344≤lo)→lo≤hi∧lo≤1114111)∧(55296≤lo∧lo<57344→57344≤hi):=by
  unfold someL at k1 k2;refine ⟨fun h=>?_,fun h=>?_,fun h=>?_⟩
  ·rw [if_pos h] at k1;exact k1
  ·rw [if_neg (by omega),if_neg (by omega)] at k1 k2;exact ⟨k1,k2⟩
  ·rw [if_neg (by omega),if_pos h] at k1;exact k1
 clear k1 k2;have K:=Lib.hid k3;clear k3;have hl:lo<33∨(33≤lo∧lo<55296)∨(55296≤lo∧lo<57344)∨57344≤lo:=by omega
 by_cases hh:1114111<hi
 all_goals
  rcases hl with l1|⟨l1,l2⟩|⟨l1,l2⟩|l1
  all_goals
   go_enter Tryz.func267,Tryz.ntmps267;go_wp2_with fail;go_ret;refine ⟨?_,rfl⟩
   have k3:=K.out
   first
   |rfl
   |(simp;omega)
structure B8 where
 prev:Int
 part:List Int
def b8R (r:B8):List Value:=[.int .u32 r.prev,.string (strOfNums r.part)]
def begunB (q:List Int):Bool:=decide (0<q.length)&&decide (33≤q.getD 0 0)&&decide (q.getD 0 0≤254)&&decide (q.length≤(firstC (q.getD 0 0)).2+1)&&(List.range q.length).all (fun j=>j==0||decide (isTr (q.getD j 0)∧q.getD j 0≤255))
theorem begun_of {q:List Int} (h:begunB q=true):Begun q:=by
 unfold begunB at h;simp only [Bool.and_eq_true,decide_eq_true_eq,List.all_eq_true,Bool.or_eq_true,beq_iff_eq] at h;obtain ⟨⟨⟨⟨h1,h2⟩,h3⟩,h4⟩,h5⟩:=h;refine ⟨h1,h2,h3,h4,fun j j0 j1=>?_⟩
 rcases h5 j (List.mem_range.2 j1) with h|h
 ·omega
 ·exact h
theorem of_begun {q:List Int} (h:Begun q):begunB q=true:=by
 unfold begunB;simp only [Bool.and_eq_true,decide_eq_true_eq,List.all_eq_true,Bool.or_eq_true,beq_iff_eq]
 refine ⟨⟨⟨⟨h.ne,h.lo⟩,h.hi⟩,h.len⟩,fun j hj=>?_⟩
 by_cases j0:j=0
 ·exact .inl j0
 ·exact .inr (h.tr j (by omega) (List.mem_range.1 hj))
def b8N (r:B8) (x:Int):Option (B8×List Int):=
 if r.part=[]∧x≤32 then some (⟨if x<32 then 64 else r.prev,[]⟩,[x])
 else if x≤32∧r.part=[]∨x=255∧r.part=[] then none
 else if begunB (r.part++[x])=true∧someB (r.prev+(rangeC (r.part++[x])).1) (r.prev+(rangeC (r.part++[x])).2.1)=true then
  (if (r.part++[x]).length=(rangeC (r.part++[x])).2.2 then (if 0≤r.prev+(rangeC (r.part++[x])).1∧r.prev+(rangeC (r.part++[x])).1≤1114111 then some (⟨prevC (r.prev+(rangeC (r.part++[x])).1),[]⟩,[r.prev+(rangeC (r.part++[x])).1]) else none)
   else some (⟨r.prev,r.part++[x]⟩,[]))
 else none
def b8I (r:B8):Prop:=0≤r.prev∧r.prev≤1114111∧(∀x∈r.part,0≤x∧x≤255)∧r.part.length≤3
theorem range_in {q:List Int} (h:Begun q): -14536567≤(rangeC q).1∧(rangeC q).1≤20000000∧-14536567≤(rangeC q).2.1∧(rangeC q).2.1≤40000000∧(rangeC q).2.2≤4:=by
 have hf:=first_in h.lo h.hi;have hv:=vS_in q h.tr (firstC (q.getD 0 0)).2 hf.2.2;unfold rangeC;generalize firstC (q.getD 0 0)=ft at hf hv ⊢;obtain ⟨fr,t⟩:=ft
 dsimp only at hf hv ⊢
 generalize vS q t=vs at hv ⊢;obtain ⟨V,S⟩:=vs;have hk:t=0∨t=1∨t=2∨t=3:=by omega
 rcases hk with rfl|rfl|rfl|rfl <;>simp at hv ⊢<;>omega
theorem str_ne {l:List Int} (h:l≠[]):¬(strOfNums l).toList=[]:=fun e=>by
 have:=toList_nil e;rw [str_size] at this;exact h (List.eq_nil_of_length_eq_zero this)
set_option maxRecDepth 100000 in
set_option maxHeartbeats 8000000 in
theorem nextb_calls {w:World} {g rb:Nat} {v:Value} {b:B4} {l:List Int} {r r2:B8} {em:List Int} (x:Int) (h:InAt 206 w g rb v b l (b8R r)) (hI:b8I r) (h0:0≤x) (h1:x≤255) (hl:l.length≤100000) (hn:b8N r x=some (r2,em)):
  Calls Tryz.prog 265 #[.pointer (some ⟨g,0,none⟩),.int .u8 x] w (NextPost 206 b8R g rb v b l w r2 em):=by
 obtain ⟨prev,part⟩:=r;have h5:w.cell? ⟨g,5,none⟩=some (.int .u32 prev):=h.cell 0;have h6:w.cell? ⟨g,6,none⟩=some (.string (strOfNums part)):=h.cell 1;have f5:=h.fz 5;have f6:=h.fz 6;obtain ⟨i1,i2,i3,i4⟩:=hI
 dsimp only at i1 i2 i3 i4
 unfold b8N at hn
 dsimp only at hn
 by_cases ha:part=[]∧x≤32
 ·rw [if_pos ha] at hn
  obtain ⟨rfl,hx⟩:=ha;simp only [Option.some.injEq,Prod.mk.injEq] at hn;obtain ⟨rfl,rfl⟩:=hn;rw [show strOfNums []=ByteArray.empty from rfl] at h6;have hx255:¬x=255:=by omega
  have w1:IntKind.u32.wrap x=x:=by rw [IntKind.wrap_u32];omega
  have hal:=h.alloc (.cells #[.int .u32 x] 31)
  have hh:=hold_calls g 4 rb v l x w.heap.size (w.alloc (.cells #[.int .u32 x] 31)) hal.c4 (hal.fz 4) hal.row hal.rbl hal.row_g (by rw [cell_of (heap_alloc_new _ _)];rfl) (by omega)
  have HA:=Lib.hid hal;have HH:=Lib.hid hh;clear h hal hh i1 i2 i3 i4
  by_cases h32:x<32
  ·rw [if_pos h32]
   go_enter Tryz.func265,Tryz.ntmps265;go_wp2_with fail;refine HH.out.mono ?_;rintro e w' ⟨rfl,r,c,w2,rfl,hown,hg,hat,hr⟩
   obtain ⟨hd,hc⟩:=HA.out.hold x hown hg hr;have hc5:World.cell? (w2.setCell ⟨g,4,none⟩ (.slice (some ⟨r,0,none⟩) (l.length+1) c)) ⟨g,5,none⟩=some (.int .u32 prev):=hd.cell 0;have hf5:=hd.fz 5;have HD:=Lib.hid hd;have HC:=Lib.hid hc;clear hd hc hown hg hat hr;go_wp2_with fail;go_ret;exact ⟨rfl,_,HD.out.setR 0 (.int .u32 64),((Chg.alloc _ _).trans HC.out).trans (is_g 5 _)⟩
  ·rw [if_neg h32]
   go_enter Tryz.func265,Tryz.ntmps265;go_wp2_with fail;refine HH.out.mono ?_;rintro e w' ⟨rfl,r,c,w2,rfl,hown,hg,hat,hr⟩
   obtain ⟨hd,hc⟩:=HA.out.hold x hown hg hr;have HD:=Lib.hid hd;have HC:=Lib.hid hc;clear hd hc hown hg hat hr;go_wp2_with fail;go_ret;exact ⟨rfl,_,HD.out,(Chg.alloc _ _).trans HC.out⟩
 ·rw [if_neg ha] at hn
  split at hn
  ·cases hn
  rename_i hb
  split at hn
  case isFalse=>cases hn
  rename_i hq;obtain ⟨q1,q2⟩:=hq;obtain ⟨q,hqe⟩:∃q,q=part++[x]:=⟨_,rfl⟩
  rw [←hqe] at hn q1 q2;have hbg:=begun_of q1;have hin:=range_in hbg;have hq255:∀y∈q,0≤y∧y≤255:=by
   intro y hy;rw [hqe] at hy;rcases List.mem_append.1 hy with hy|hy
   ·exact i3 y hy
   ·rw [List.mem_singleton.1 hy];omega
  have hbyt:=byt_nums hq255;have hrc:=fun wy=>range_calls (strOfNums q) (by rw [hbyt];exact hbg) wy
  rw [hbyt] at hrc;unfold RngPost at hrc;have hsz:=str_size q;generalize rangeC q=R at hn q2 hin hrc;obtain ⟨lo,hi,n⟩:=R
  dsimp only at hn q2 hin hrc
  obtain ⟨j1,j2,j3,j4,j5⟩:=hin;have HRc:=Lib.hid hrc;have HSm:=Lib.hid (fun wy=>some_calls (prev+lo) (prev+hi) (by omega) (by omega) (by omega) (by omega) q2 wy)
  have hcat:strOfNums part++strOfNums [x]=strOfNums q:=by rw [hqe];exact str_append part [x]
  have hcv:(convert 68 9 (.slice (some ⟨w.heap.size,0,none⟩) 1 1)).run Tryz.prog (w.alloc (.cells #[.int .u8 x] 5)).drew= .ok (.string (strOfNums [x])) (w.alloc (.cells #[.int .u8 x] 5)).drew:=conv_newd w [x] 1 rfl;have hlt:=h.lt;have hpt:part=[]∧¬x=255∧¬x≤32∨¬(strOfNums part).toList=[]∧(strOfNums part).toList.isEmpty=false:=by
   by_cases hp:part=[]
   ·exact .inl ⟨hp,fun e=>hb (.inr ⟨e,hp⟩),fun e=>hb (.inl ⟨e,hp⟩)⟩
   ·exact .inr ⟨str_ne hp,by rw [List.isEmpty_eq_false_iff];exact str_ne hp⟩
  have H:=Lib.hid h;have hps:=str_size part;have hx1:(strOfNums [x]).size=1:=str_size [x]
  have HCat:=Lib.hid hcat;have HSz:=Lib.hid hsz;have hqn:q.length≤4:=by rw [hqe,List.length_append];simp;omega
  have HQe:=Lib.hid hqe;clear ha hb h i3 hq255 hbyt hrc hcat hsz hqe q1 q2 hbg;rcases hpt with ⟨rfl,k1,k2⟩|⟨k1,k2⟩
  ·rw [show strOfNums []=ByteArray.empty from rfl] at h6
   have HCat:=Lib.hid (show strOfNums [x]=strOfNums q by rw [HQe.out];rfl)
   have k1b:(x==255)=false:=by simpa using k1
   clear hps;go_enter Tryz.func265,Tryz.ntmps265;go_upto_region 10 with fail;go_cut [5] from 38 to 45 (fun u wx=>u= .string (strOfNums q)∧Below w.heap.size w wx)
   case first=>
    go_region
    all_goals
     go_wp2_with fail;go_meet;exact ⟨by rw [HCat.out],((Below.refl _ _).alloc (Nat.le_refl _) _).drew⟩
   case rest=>
    obtain ⟨rfl,hbl⟩:=hcut;have HD:=Lib.hid (H.out.keep hbl.size (hbl.block _ hlt) (fun k hk=>hbl.block k (H.out.row.lt k hk).2))
    have HC:=Lib.hid (Chg.of_below (S:=IS g v) hbl)
    clear hbl HCat hcv;have c5:wc.cell? ⟨g,5,none⟩=some (.int .u32 prev):=HD.out.cell 0;have g5:=HD.out.fz 5;have g6:=HD.out.fz 6;have c6:wc.cell? ⟨g,6,none⟩=_:=HD.out.cell 1;have e1:IntKind.i64.wrap (prev+lo)=prev+lo:=IntWalk.i64_in _ (by omega)
    have e2:IntKind.i64.wrap (prev+hi)=prev+hi:=IntWalk.i64_in _ (by omega)
    have hsz:=HSz.out;have hsz2:(strOfNums q).size≤4:=by rw [hsz];exact hqn
    go_wp2_with fail;refine (HRc.out _).mono ?_;rintro e w3 ⟨rfl,rfl⟩
    go_wp2_with fail;go_quiet ((go_at_call 267;exact Calls.quiet_of_same (HSm.out _)))
    have HD2:=Lib.hid ((HD.out.drewN nq).setR 1 (.string (strOfNums q)))
    have HC2:=Lib.hid ((HC.out.trans (Chg.drewN _ nq)).trans (is_g (v:=v) 6 (.string (strOfNums q))))
    clear e1 e2
    by_cases hfull:q.length=n
    ·rw [if_pos hfull] at hn
     split at hn
     case isFalse=>cases hn
     rename_i hcr;simp only [Option.some.injEq,Prod.mk.injEq] at hn;obtain ⟨rfl,rfl⟩:=hn;obtain ⟨cr0,cr1⟩:=hcr;have hne:((strOfNums q).size:Int)=(n:Int):=by rw [hsz];omega
     obtain ⟨C,hC⟩:∃C,C=prev+lo:=⟨_,rfl⟩
     rw [←hC] at cr0 cr1;have wC:IntKind.u32.wrap (prev+lo)=C:=by rw [IntKind.wrap_u32];omega
     have HP:=Lib.hid (fun wy=>prev_calls C wy cr0 cr1)
     have HCe:=Lib.hid hC;clear hC hsz;go_upto_region 16 with fail;obtain ⟨w4,hw4⟩:∃w4,w4=(wc.drewN nq).setCell ⟨g,6,none⟩ (.string (strOfNums q)):=⟨_,rfl⟩
     have k5:w4.cell? ⟨g,5,none⟩=some (.int .u32 prev):=by rw [hw4];exact HD2.out.cell 0
     rw [←hw4] at HD2 HC2 ⊢;have hal:=HD2.out.alloc (.cells #[.int .u32 C] 31)
     have hh:=hold_calls g 4 rb v l C w4.heap.size (w4.alloc (.cells #[.int .u32 C] 31)) hal.c4 (hal.fz 4) hal.row hal.rbl hal.row_g (by rw [cell_of (heap_alloc_new _ _)];rfl) (by omega)
     have HA:=Lib.hid hal;have HH:=Lib.hid hh;clear hal hh hw4 c5 c6 g5 g6;go_wp2_with fail;refine HH.out.mono ?_;rintro e w' ⟨rfl,r',c',w5,rfl,hown,hg,hat,hr⟩
     obtain ⟨hd,hc⟩:=HA.out.hold C hown hg hr;have c5:World.cell? (w5.setCell ⟨g,4,none⟩ (.slice (some ⟨r',0,none⟩) (l.length+1) c')) ⟨g,5,none⟩=_:=hd.cell 0;have c6:World.cell? (w5.setCell ⟨g,4,none⟩ (.slice (some ⟨r',0,none⟩) (l.length+1) c')) ⟨g,6,none⟩=_:=hd.cell 1;have g5:=hd.fz 5;have g6:=hd.fz 6;have HD3:=Lib.hid hd;have HC3:=Lib.hid hc;clear hd hc hown hg hat hr;go_wp2_with fail;refine (HP.out _).mono ?_;rintro e w6 ⟨rfl,rfl⟩
     go_wp2_with fail;go_ret;refine ⟨rfl,_,by rw [←HCe.out];exact (HD3.out.setR 0 (.int .u32 (prevC C))).setR 1 (.string (strOfNums [])),?_⟩
     exact (((HC2.out.trans (Chg.alloc _ _)).trans HC3.out).trans (is_g 5 _)).trans (is_g 6 _)
    ·rw [if_neg hfull] at hn
     simp only [Option.some.injEq,Prod.mk.injEq] at hn;obtain ⟨rfl,rfl⟩:=hn;have hne:¬(((strOfNums q).size:Int)=(n:Int)):=by rw [hsz];omega
     go_wp2_with fail;go_ret;exact ⟨rfl,v,by rw [List.append_nil];exact HD2.out,HC2.out⟩
  ·go_enter Tryz.func265,Tryz.ntmps265
   go_upto_region 10 with fail;go_cut [5] from 38 to 45 (fun u wx=>u= .string (strOfNums q)∧Below w.heap.size w wx)
   case first=>
    go_region
    all_goals
     go_wp2_with fail;go_meet;exact ⟨by rw [HCat.out],((Below.refl _ _).alloc (Nat.le_refl _) _).drew⟩
   case rest=>
    obtain ⟨rfl,hbl⟩:=hcut;have HD:=Lib.hid (H.out.keep hbl.size (hbl.block _ hlt) (fun k hk=>hbl.block k (H.out.row.lt k hk).2))
    have HC:=Lib.hid (Chg.of_below (S:=IS g v) hbl)
    clear hbl HCat hcv;have c5:wc.cell? ⟨g,5,none⟩=some (.int .u32 prev):=HD.out.cell 0;have g5:=HD.out.fz 5;have g6:=HD.out.fz 6;have c6:wc.cell? ⟨g,6,none⟩=_:=HD.out.cell 1;have e1:IntKind.i64.wrap (prev+lo)=prev+lo:=IntWalk.i64_in _ (by omega)
    have e2:IntKind.i64.wrap (prev+hi)=prev+hi:=IntWalk.i64_in _ (by omega)
    have hsz:=HSz.out;have hsz2:(strOfNums q).size≤4:=by rw [hsz];exact hqn
    go_wp2_with fail;refine (HRc.out _).mono ?_;rintro e w3 ⟨rfl,rfl⟩
    go_wp2_with fail;go_quiet ((go_at_call 267;exact Calls.quiet_of_same (HSm.out _)))
    have HD2:=Lib.hid ((HD.out.drewN nq).setR 1 (.string (strOfNums q)))
    have HC2:=Lib.hid ((HC.out.trans (Chg.drewN _ nq)).trans (is_g (v:=v) 6 (.string (strOfNums q))))
    clear e1 e2
    by_cases hfull:q.length=n
    ·rw [if_pos hfull] at hn
     split at hn
     case isFalse=>cases hn
     rename_i hcr;simp only [Option.some.injEq,Prod.mk.injEq] at hn;obtain ⟨rfl,rfl⟩:=hn;obtain ⟨cr0,cr1⟩:=hcr;have hne:((strOfNums q).size:Int)=(n:Int):=by rw [hsz];omega
     obtain ⟨C,hC⟩:∃C,C=prev+lo:=⟨_,rfl⟩
     rw [←hC] at cr0 cr1;have wC:IntKind.u32.wrap (prev+lo)=C:=by rw [IntKind.wrap_u32];omega
     have HP:=Lib.hid (fun wy=>prev_calls C wy cr0 cr1)
     have HCe:=Lib.hid hC;clear hC hsz;go_upto_region 16 with fail;obtain ⟨w4,hw4⟩:∃w4,w4=(wc.drewN nq).setCell ⟨g,6,none⟩ (.string (strOfNums q)):=⟨_,rfl⟩
     have k5:w4.cell? ⟨g,5,none⟩=some (.int .u32 prev):=by rw [hw4];exact HD2.out.cell 0
     rw [←hw4] at HD2 HC2 ⊢;have hal:=HD2.out.alloc (.cells #[.int .u32 C] 31)
     have hh:=hold_calls g 4 rb v l C w4.heap.size (w4.alloc (.cells #[.int .u32 C] 31)) hal.c4 (hal.fz 4) hal.row hal.rbl hal.row_g (by rw [cell_of (heap_alloc_new _ _)];rfl) (by omega)
     have HA:=Lib.hid hal;have HH:=Lib.hid hh;clear hal hh hw4 c5 c6 g5 g6;go_wp2_with fail;refine HH.out.mono ?_;rintro e w' ⟨rfl,r',c',w5,rfl,hown,hg,hat,hr⟩
     obtain ⟨hd,hc⟩:=HA.out.hold C hown hg hr;have c5:World.cell? (w5.setCell ⟨g,4,none⟩ (.slice (some ⟨r',0,none⟩) (l.length+1) c')) ⟨g,5,none⟩=_:=hd.cell 0;have c6:World.cell? (w5.setCell ⟨g,4,none⟩ (.slice (some ⟨r',0,none⟩) (l.length+1) c')) ⟨g,6,none⟩=_:=hd.cell 1;have g5:=hd.fz 5;have g6:=hd.fz 6;have HD3:=Lib.hid hd;have HC3:=Lib.hid hc;clear hd hc hown hg hat hr;go_wp2_with fail;refine (HP.out _).mono ?_;rintro e w6 ⟨rfl,rfl⟩
     go_wp2_with fail;go_ret;refine ⟨rfl,_,by rw [←HCe.out];exact (HD3.out.setR 0 (.int .u32 (prevC C))).setR 1 (.string (strOfNums [])),?_⟩
     exact (((HC2.out.trans (Chg.alloc _ _)).trans HC3.out).trans (is_g 5 _)).trans (is_g 6 _)
    ·rw [if_neg hfull] at hn
     simp only [Option.some.injEq,Prod.mk.injEq] at hn;obtain ⟨rfl,rfl⟩:=hn;have hne:¬(((strOfNums q).size:Int)=(n:Int)):=by rw [hsz];omega
     go_wp2_with fail;go_ret;exact ⟨rfl,v,by rw [List.append_nil];exact HD2.out,HC2.out⟩
end Dcd
namespace Dcd
open Go.RowKit Win Stp Mach Dec Out
theorem worth_byte {v:Int} (h0:0≤v) (h1:v<243):worthC (byteC v)=v∧isTr (byteC v):=by
 have hc:20≤v∨(16≤v∧v<20)∨(6≤v∧v<16)∨v<6:=by omega
 rcases hc with h|⟨h,k⟩|⟨h,k⟩|h
 ·rw [show byteC v=v+13 by unfold byteC;rw [if_pos h]]
  unfold worthC isTr;rw [if_pos (by omega)]
  omega
 ·rw [show byteC v=v+12 by unfold byteC;rw [if_neg (by omega),if_pos h]]
  unfold worthC isTr;rw [if_neg (by omega),if_pos (by omega)]
  omega
 ·rw [show byteC v=v+10 by unfold byteC;rw [if_neg (by omega),if_neg (by omega),if_pos h]]
  unfold worthC isTr;rw [if_neg (by omega),if_neg (by omega),if_pos (by omega)]
  omega
 ·rw [show byteC v=v+1 by unfold byteC;rw [if_neg (by omega),if_neg (by omega),if_neg (by omega)]]
  unfold worthC isTr;rw [if_neg (by omega),if_neg (by omega),if_neg (by omega)]
  omega
theorem place_first {d:Int} (h0: -1114111≤d) (h1:d≤1114111):firstC ((placeC d).2.1+(placeC d).1/243^(placeC d).2.2)=(d-(placeC d).1%243^(placeC d).2.2,(placeC d).2.2):=by
 unfold placeC
 repeat' split
 all_goals
  simp only [Int.reducePow,Int.pow_zero,Int.pow_one,Int.pow_succ]
  unfold firstC
  repeat' split
  all_goals
   first
   |(exfalso;omega)
   |(refine Prod.ext ?_ rfl;show (_:Int)=_;simp only;omega)
   |trace_state
theorem tr_byte {v:Int}:isTr (byteC (v%243))∧byteC (v%243)≤255∧worthC (byteC (v%243))=v%243:=by
 have a0:0≤v%243:=by omega
 have a1:v%243<243:=by omega
 have h:=worth_byte a0 a1;exact ⟨h.2,(byteC_rng a0 a1).2,h.1⟩
def Pre (q:List Int) (d:Int) (n:Nat):Prop:=Begun q∧(rangeC q).1≤d∧d≤(rangeC q).2.1∧(rangeC q).2.2=n∧(q.length=n→(rangeC q).1=d)
theorem pre_0 {X L d:Int} (h33:33≤X) (h254:X≤254) (hf:firstC X=(d-L%243^0,0)) (k:Nat) (hk1:1≤k) (hk:k≤1):Pre ([X].take k) d 1:=by
 simp only [Int.pow_zero] at*;obtain rfl:k=1:=by omega
 refine ⟨⟨by simp,by simpa using h33,by simpa using h254,by simp [hf],?_⟩,?_⟩
 ·intro j j0 j1
  simp at j1;omega
 ·simp [rangeC,hf,vS] <;>omega
theorem pre_1 {X L d:Int} (h33:33≤X) (h254:X≤254) (hf:firstC X=(d-L%243^1,1)) (k:Nat) (hk1:1≤k) (hk:k≤2):Pre ([X,byteC (L/243^0%243)].take k) d 2:=by
 obtain ⟨t1,u1,v1⟩:=tr_byte (v:=L/243^0)
 simp only [Int.reducePow,Int.pow_zero,Int.ediv_one] at*;have hc:k=1∨k=2:=by omega
 rcases hc with rfl|rfl
 ·refine ⟨⟨by simp,by simpa using h33,by simpa using h254,by simp [hf],?_⟩,?_⟩
  ·intro j j0 j1
   simp at j1;omega
  ·simp [rangeC,hf,vS] <;>omega
 ·refine ⟨⟨by simp,by simpa using h33,by simpa using h254,by simp [hf],?_⟩,?_⟩
  ·intro j j0 j1
   simp at j1;have hj:j=1:=by omega
   obtain rfl:=hj;exact ⟨t1,u1⟩
  ·simp [rangeC,hf,vS,v1] <;>omega
theorem pre_2 {X L d:Int} (h33:33≤X) (h254:X≤254) (hf:firstC X=(d-L%243^2,2)) (k:Nat) (hk1:1≤k) (hk:k≤3):Pre ([X,byteC (L/243^1%243),byteC (L/243^0%243)].take k) d 3:=by
 obtain ⟨t1,u1,v1⟩:=tr_byte (v:=L/243^1)
 obtain ⟨t2,u2,v2⟩:=tr_byte (v:=L/243^0)
 simp only [Int.reducePow,Int.pow_zero,Int.ediv_one] at*;have hc:k=1∨k=2∨k=3:=by omega
 rcases hc with rfl|rfl|rfl
 ·refine ⟨⟨by simp,by simpa using h33,by simpa using h254,by simp [hf],?_⟩,?_⟩
  ·intro j j0 j1
   simp at j1;omega
  ·simp [rangeC,hf,vS] <;>omega
 ·refine ⟨⟨by simp,by simpa using h33,by simpa using h254,by simp [hf],?_⟩,?_⟩
  ·intro j j0 j1
   simp at j1;have hj:j=1:=by omega
   obtain rfl:=hj;exact ⟨t1,u1⟩
  ·simp [rangeC,hf,vS,v1] <;>omega
 ·refine ⟨⟨by simp,by simpa using h33,by simpa using h254,by simp [hf],?_⟩,?_⟩
  ·intro j j0 j1
   simp at j1;have hj:j=1∨j=2:=by omega
   rcases hj with rfl|rfl
   ·exact ⟨t1,u1⟩
   ·exact ⟨t2,u2⟩
  ·simp [rangeC,hf,vS,v1,v2] <;>omega
theorem pre_3 {X L d:Int} (h33:33≤X) (h254:X≤254) (hf:firstC X=(d-L%243^3,3)) (k:Nat) (hk1:1≤k) (hk:k≤4):Pre ([X,byteC (L/243^2%243),byteC (L/243^1%243),byteC (L/243^0%243)].take k) d 4:=by
 obtain ⟨t1,u1,v1⟩:=tr_byte (v:=L/243^2)
 obtain ⟨t2,u2,v2⟩:=tr_byte (v:=L/243^1)
 obtain ⟨t3,u3,v3⟩:=tr_byte (v:=L/243^0)
 simp only [Int.reducePow,Int.pow_zero,Int.ediv_one] at*;have hc:k=1∨k=2∨k=3∨k=4:=by omega
 rcases hc with rfl|rfl|rfl|rfl
 ·refine ⟨⟨by simp,by simpa using h33,by simpa using h254,by simp [hf],?_⟩,?_⟩
  ·intro j j0 j1
   simp at j1;omega
  ·simp [rangeC,hf,vS] <;>omega
 ·refine ⟨⟨by simp,by simpa using h33,by simpa using h254,by simp [hf],?_⟩,?_⟩
  ·intro j j0 j1
   simp at j1;have hj:j=1:=by omega
   obtain rfl:=hj;exact ⟨t1,u1⟩
  ·simp [rangeC,hf,vS,v1] <;>omega
 ·refine ⟨⟨by simp,by simpa using h33,by simpa using h254,by simp [hf],?_⟩,?_⟩
  ·intro j j0 j1
   simp at j1;have hj:j=1∨j=2:=by omega
   rcases hj with rfl|rfl
   ·exact ⟨t1,u1⟩
   ·exact ⟨t2,u2⟩
  ·simp [rangeC,hf,vS,v1,v2] <;>omega
 ·refine ⟨⟨by simp,by simpa using h33,by simpa using h254,by simp [hf],?_⟩,?_⟩
  ·intro j j0 j1
   simp at j1;have hj:j=1∨j=2∨j=3:=by omega
   rcases hj with rfl|rfl|rfl
   ·exact ⟨t1,u1⟩
   ·exact ⟨t2,u2⟩
   ·exact ⟨t3,u3⟩
  ·simp [rangeC,hf,vS,v1,v2,v3] <;>omega
theorem pack_pre {d:Int} (h0: -1114111≤d) (h1:d≤1114111) (k:Nat) (hk1:1≤k) (hk:k≤(packC d).length):Pre ((packC d).take k) d (packC d).length:=by
 have pf:=place_first h0 h1;obtain ⟨p1,p2,p3,p4,p5⟩:=place_rng h0 h1;unfold packC at hk ⊢;rw [List.length_cons,digs_length] at hk ⊢;generalize placeC d=P at pf p1 p2 p3 p4 p5 hk ⊢;obtain ⟨L,ld,t⟩:=P
 dsimp only at pf p1 p2 p3 p4 p5 hk ⊢
 have ht:t=0∨t=1∨t=2∨t=3:=by omega
 rcases ht with rfl|rfl|rfl|rfl
 ·exact pre_0 p4 p5 pf k hk1 hk
 ·exact pre_1 p4 p5 pf k hk1 hk
 ·exact pre_2 p4 p5 pf k hk1 hk
 ·exact pre_3 p4 p5 pf k hk1 hk
theorem some_of {c lo hi:Int} (h33:33≤c) (hb:isB c=true) (h1:lo≤c) (h2:c≤hi):someB lo hi=true:=by
 obtain ⟨b1,b2⟩:=isB_iff.1 hb;unfold someB someL;rw [Bool.and_eq_true,decide_eq_true_eq,decide_eq_true_eq]
 (repeat' split) <;>omega
theorem pack_lead {d:Int} (h0: -1114111≤d) (h1:d≤1114111):33≤(packC d).getD 0 0∧(packC d).getD 0 0≤254:=by
 obtain ⟨p1,p2,p3,p4,p5⟩:=place_rng h0 h1;exact ⟨p4,p5⟩
theorem pack_steps {q c:Int} (h33:33≤c) (hb:isB c=true) (hq0:0≤q) (hq1:q≤1114111):∀(n k:Nat),k+n=(packC (c-q)).length→1≤n→
  stepsR b8N ⟨q,(packC (c-q)).take k⟩ ((packC (c-q)).drop k)=some (⟨prevC c,[]⟩,[c]):=by
 obtain ⟨b1,b2⟩:=isB_iff.1 hb;have hd0: -1114111≤c-q:=by omega
 have hd1:c-q≤1114111:=by omega
 intro n
 induction n with
 |zero=>intro k _ h;omega
 |succ n ih=>
  intro k hk _;have hkl:k<(packC (c-q)).length:=by omega
  obtain ⟨hbg,r1,r2,r3,r4⟩:=pack_pre hd0 hd1 (k+1) (by omega) (by omega)
  have hlead:=pack_lead hd0 hd1;have htk:(packC (c-q)).take (k+1)=(packC (c-q)).take k++[(packC (c-q)).getD k 0]:=by
   rw [List.take_succ_eq_append_getElem hkl,List.getD_eq_getElem?_getD,List.getElem?_eq_getElem hkl];rfl
  rw [Lst.drop_cons hkl]
  have hlen:((packC (c-q)).take (k+1)).length=k+1:=by rw [List.length_take];omega
  have hk0:(packC (c-q)).take k=[]→k=0:=fun h=>by
   have:=congrArg List.length h;rw [List.length_take,List.length_nil] at this;omega
  have hx:(packC (c-q)).take k=[]→33≤(packC (c-q)).getD k 0∧(packC (c-q)).getD k 0≤254:=fun h=>by rw [hk0 h];exact hlead
  have step:b8N ⟨q,(packC (c-q)).take k⟩ ((packC (c-q)).getD k 0)=(if k+1=(packC (c-q)).length then some (⟨prevC c,[]⟩,[c]) else some (⟨q,(packC (c-q)).take (k+1)⟩,[])):=by
   unfold b8N
   dsimp only
   have n1:¬((packC (c-q)).take k=[]∧(packC (c-q)).getD k 0≤32):=fun h=>by have h2:=h.2;have:=hx h.1;omega
   have n2:¬((packC (c-q)).getD k 0≤32∧(packC (c-q)).take k=[]∨(packC (c-q)).getD k 0=255∧(packC (c-q)).take k=[]):=fun h=>by rcases h with h|h <;>(have h2:=h.1;have:=hx h.2;omega)
   have s1:someB (q+(rangeC ((packC (c-q)).take (k+1))).1) (q+(rangeC ((packC (c-q)).take (k+1))).2.1)=true:=some_of h33 hb (by omega) (by omega)
   rw [if_neg n1,if_neg n2,←htk,if_pos ⟨of_begun hbg,s1⟩,hlen,r3]
   by_cases hf:k+1=(packC (c-q)).length
   ·rw [if_pos hf,if_pos hf,r4 (hlen.trans hf),if_pos (by omega)]
    rw [show q+(c-q)=c by omega]
   ·rw [if_neg hf,if_neg hf]
  cases n with
  |zero=>
   rw [if_pos (by omega)] at step;have hdr:(packC (c-q)).drop (k+1)=[]:=by rw [List.drop_of_length_le (by omega)]
   rw [hdr]
   exact stepsR_one (e2:=[]) step rfl
  |succ n=>
   rw [if_neg (by omega)] at step;exact stepsR_one (e:=[]) step (ih (k+1) (by omega) (by omega))
def b8P (q:Int) (r:B8):Prop:=bocuI q∧r.prev=q∧r.part=[]
theorem b8_one (q:Int) (r:B8) (c:Int) (hp:b8P q r) (h0:0≤c) (hb:isB c=true):∃r',stepsR b8N r (bocuB q c)=some (r',[c])∧b8P (bocuN q c) r':=by
 obtain ⟨b1,b2⟩:=isB_iff.1 hb;obtain ⟨prev,part⟩:=r;obtain ⟨⟨i1,i2⟩,p1,p2⟩:=hp
 dsimp only at p1 p2
 subst p1 p2;unfold bocuB bocuN
 by_cases h32:c≤32
 ·rw [if_pos h32,if_pos h32]
  refine ⟨⟨if c<32 then 64 else prev,[]⟩,stepsR_one (xs:=[]) (e:=[c]) (e2:=[]) ?_ rfl,?_,rfl,rfl⟩
  ·unfold b8N
   rw [if_pos ⟨rfl,h32⟩]
  ·unfold bocuI
   split <;>omega
 ·rw [if_neg h32,if_neg h32]
  have hl:1≤(packC (c-prev)).length:=by unfold packC;simp
  have h:=pack_steps (q:=prev) (c:=c) (by omega) hb i1 i2 (packC (c-prev)).length 0 (by omega) hl;exact ⟨_,h,prevC_rng h0 (by omega),rfl,rfl⟩
theorem b8_keep (r r2:B8) (x:Int) (em:List Int) (hI:b8I r) (h0:0≤x) (h1:x≤255) (hn:b8N r x=some (r2,em)):b8I r2∧em.length≤1:=by
 obtain ⟨i1,i2,i3,i4⟩:=hI;unfold b8N at hn
 split at hn
 ·simp only [Option.some.injEq,Prod.mk.injEq] at hn
  obtain ⟨rfl,rfl⟩:=hn;refine ⟨⟨?_,?_,by simp,by simp⟩,by simp⟩ <;>simp only <;>split <;>omega
 ·split at hn
  ·cases hn
  ·split at hn
   ·rename_i hq
    have hbg:=begun_of hq.1;have hf:=first_in hbg.lo hbg.hi;have hlen:=hbg.len
    split at hn
    ·split at hn
     ·rename_i hc
      simp only [Option.some.injEq,Prod.mk.injEq] at hn;obtain ⟨rfl,rfl⟩:=hn;have:=prevC_rng hc.1 hc.2;exact ⟨⟨this.1,this.2,by simp,by simp⟩,by simp⟩
     ·cases hn
    ·rename_i hne
     simp only [Option.some.injEq,Prod.mk.injEq] at hn;obtain ⟨rfl,rfl⟩:=hn;have h22:(rangeC (r.part++[x])).2.2=(firstC ((r.part++[x]).getD 0 0)).2+1:=rfl;refine ⟨⟨i1,i2,fun y hy=>?_,by simp only;omega⟩,by simp⟩
     rcases List.mem_append.1 hy with hy|hy
     ·exact i3 y hy
     ·rw [List.mem_singleton.1 hy];omega
   ·cases hn
theorem digs_rng (L:Int):∀(t:Nat),∀x∈digs L t,0≤x∧x≤255
 |0,x,hx=>by cases hx
 |t+1,x,hx=>by
  rw [digs] at hx;rcases List.mem_cons.1 hx with rfl|hx
  ·have:=byteC_rng (v:=L/243^t%243) (by omega) (by omega);omega
  ·exact digs_rng L t x hx
theorem b8_rng (q:Int) (c:Int) (hq:bocuI q) (h0:0≤c) (hb:isB c=true):(∀x∈bocuB q c,0≤x∧x≤255)∧bocuI (bocuN q c):=by
 obtain ⟨b1,b2⟩:=isB_iff.1 hb;obtain ⟨i1,i2⟩:=hq;unfold bocuB bocuN
 by_cases h32:c≤32
 ·rw [if_pos h32,if_pos h32]
  refine ⟨fun x hx=>by rw [List.mem_singleton.1 hx];omega,?_⟩
  unfold bocuI
  split <;>omega
 ·rw [if_neg h32,if_neg h32]
  refine ⟨fun x hx=>?_,prevC_rng h0 (by omega)⟩
  obtain ⟨p1,p2,p3,p4,p5⟩:=place_rng (d:=c-q) (by omega) (by omega)
  unfold packC at hx;rcases List.mem_cons.1 hx with rfl|hx
  ·omega
  ·exact digs_rng _ _ x hx
theorem dendb {w:World} {g:Nat} {b:B4} {r:B8} (hr:r.part=[]) (h:InAt 206 w g 0 nilS b [] (b8R r)) (hb:b.going=true):
  Calls Tryz.prog 263 #[.pointer (some ⟨g,0,none⟩)] w fun e w'=>e= .returned (.tuple #[])∧InAt 206 w' g 0 nilS {b with fin:=true} [] (b8R r)∧Chg (IS g nilS) w w':=by
 have h6:w.cell? ⟨g,6,none⟩=some (.string (strOfNums r.part)):=h.cell 1;rw [hr,show strOfNums []=ByteArray.empty from rfl] at h6;have HE:=Lib.hid (bend_in h hb)
 clear h hb hr;go_enter Tryz.func263,Tryz.ntmps263;go_wp2_with fail;refine HE.out.mono ?_;rintro e w1 ⟨rfl,hd,hc⟩
 have HD:=Lib.hid hd;have HC:=Lib.hid hc;clear hd hc;go_wp2_with fail;go_end0;exact ⟨rfl,HD.out,HC.out⟩
theorem mkdb (v:Value) (w:World):(Instr.makeInterface 136 v).run Tryz.prog w= .ok (.iface 136 v) w:=run_makeInterface w 136 v (by kernel_rfl)
theorem dnewb (w:World):Calls Tryz.prog 75 #[] w fun e w'=>e= .returned (.pointer (some ⟨w.heap.size,0,none⟩))∧InAt 206 w' w.heap.size 0 nilS Dec.b40 [] (b8R ⟨64,[]⟩)∧Below w.heap.size w w':=by
 go_enter Tryz.func75,Tryz.ntmps75;go_wp2;go_ret;exact ⟨rfl,⟨heap_alloc_new _ _,World.ownsRow_nil _ _ _ _,fun _=>rfl,Nat.zero_le _,by decide⟩,(Below.refl _ _).alloc (Nat.le_refl _) _⟩
theorem dispb:Disp 136 264 263:=
 ⟨fun _ _=>by kernel_rfl,fun _ _=>by kernel_rfl,fun _ _=>by kernel_rfl,fun _ _=>by kernel_rfl,fun _ _ _ _=>by kernel_rfl,fun _ _=>by kernel_rfl⟩
section
attribute [local go_sem] mkdb
theorem newG_b {s:ByteArray} {out:List Int} {rE:B8} (hs:s.size≤4000) (hst:stepsR b8N ⟨64,[]⟩ (byt s)=some (rE,out)) (hE:rE.part=[]) (w:World):
  Calls Tryz.prog 37 #[.int .i64 8] w (NewG 136 264 263 s out [] w):=by
 go_enter Tryz.func37,Tryz.ntmps37;go_wp2_with fail;refine (dnewb _).mono ?_;rintro e w1 ⟨rfl,hd,hb⟩
 go_wp2_with fail;go_ret2;exact ⟨w.heap.size,IS w.heap.size nilS,fun i hi=>is_lt (Nat.le_refl _) hd.lt hi,Nat.le_refl _,hd.lt,rfl,hb,
  rdy_in hd (fun wy hy=>dfeed_bocu s 4096 hy (I:=b8I) (by unfold b8I;simp) (fun r r2 x em w rb v b l hI hh x0 x1 hl hn=>nextb_calls x hh hI x0 x1 hl hn) (fun r r2 x em hI x0 x1 hn=>b8_keep r r2 x em hI x0 x1 hn) hst hs rfl) (fun w b hh hb=>dendb hE hh hb)⟩
end
theorem decode_b {l:List Int} (hl:l.length≤400) (hs:∀x∈l,0≤x∧isB x=true) (w:World):Calls Tryz.prog 18 #[.int .i64 8,.string (strOfNums (encS 8 l))] w (DecG w l):=by
 have hI0:bocuI 64:=by unfold bocuI;omega
 have hrn:=told_rng (I:=bocuI) (M:=bocuN) b8_rng l 64 hI0 hs;have hlen:=told_len bocuN bocuB_len l 64;obtain ⟨rE,h1,h2⟩:=stepsR_told (M:=bocuN) (P:=b8P) b8_one l 64 ⟨64,[]⟩ ⟨hI0,rfl,rfl⟩ hs;have he:encS 8 l=told bocuB bocuN 64 l:=rfl;rw [he]
 have hsz:=str_size (told bocuB bocuN 64 l)
 have h:=decode_any (w:=w) dispb (newG_b (s:=strOfNums (told bocuB bocuN 64 l)) (out:=l) (by rw [hsz];exact Nat.le_trans hlen (by omega)) (by rw [byt_nums hrn];exact h1) h2.2.2) (by omega) (by simp) (by rw [hsz];exact Nat.le_trans hlen (by omega))
 rwa [List.append_nil] at h
end Dcd
end Go.Proofs.YtooiooledeblmaaGreat
