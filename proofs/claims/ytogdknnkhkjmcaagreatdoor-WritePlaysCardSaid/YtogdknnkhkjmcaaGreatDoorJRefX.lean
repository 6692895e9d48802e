/- The document's layer 4: at, the walk. -/
import Derived.Test.YtogdknnkhkjmcaaGreatDoorJRefV
import Derived.Test.YtogdknnkhkjmcaaGreatDoorJWrM
namespace Go.Proofs.YtogdknnkhkjmcaaGreatDoor
open Go.RowKit
set_option linter.all false
set_option maxRecDepth 100000 in
set_option maxHeartbeats 4000000 in
theorem ref4_at (s:ByteArray)(hs:s.size≤17592186044416)(i:Nat)(hi:i<s.size)(w:World):Calls Tryz.prog 115 #[.string s,I (i:Int)] w fun e w'=>e= .returned (.tuple #[.int .i32 (atP s i).1,I (atP s i).2])∧Keeps (· <w.heap.size) w w':=by
 have hiI:(i:Int)<(s.size:Int):=by omega
 have hb:=byteI_bnd s i;have hba:=byteI_at s i hi;have h1P:=atP_one s i;have hnP:=atP_none s i hi;generalize hat:atP s i=at' at*;obtain⟨rr,rk⟩:=at';dsimp only;generalize hz:s[i].toNat=z at*;have H1P:=hid h1P;have HnP:=hid hnP;have Hat:=hid hat;clear h1P hnP hat;refine calls_hide fun R' hR'=>?_
 go_enter Tryz.func115,Tryz.ntmps115
 by_cases g1:z<128
 ·have g1I:(z:Int)<128:=by omega
  have he:=H1P.out (by omega)
  injection he with e1 e2
  rw[hba]at e1;subst e1 e2;exact c65
 have g1I:¬(z:Int)<128:=by omega
 by_cases g2:z<192∨248≤z
 ·have hk:leadK (byteI s i)=0:=by
   unfold leadK
   repeat' split
   all_goals omega
  have he:=HnP.out (by omega) (Or.inl hk)
  injection he with e1 e2
  subst e1 e2
  rcases g2 with g2|g2
  ·have g2I:¬192≤(z:Int):=by omega
   have g3I:¬224≤(z:Int):=by omega
   have g4I:¬240≤(z:Int):=by omega
   go_wp2_with fail
   exact hR'.out _ _ ⟨rfl,Keeps.refl _ _⟩
  ·have g2I:¬(z:Int)<224:=by omega
   have g3I:¬(z:Int)<240:=by omega
   have g4I:¬(z:Int)<248:=by omega
   have g5I:192≤(z:Int):=by omega
   have g6I:224≤(z:Int):=by omega
   have g7I:240≤(z:Int):=by omega
   go_wp2_with fail
   exact hR'.out _ _ ⟨rfl,Keeps.refl _ _⟩
 rcases(by omega:(192≤z∧z<224)∨(224≤z∧z<240)∨(240≤z∧z<248))with g3|g3|g3
 ·have a1:192≤(z:Int):=by omega
  have a2:(z:Int)<224:=by omega
  have a3:¬224≤(z:Int):=by omega
  have a4:¬240≤(z:Int):=by omega
  have hk:leadK (byteI s i)=2:=by
   unfold leadK
   repeat' split
   all_goals omega
  have hln:leadN (byteI s i)=(z:Int)-192:=by
   unfold leadN
   repeat' split
   all_goals omega
  have zz126:=@c634;exact c633
 ·have a1:192≤(z:Int):=by omega
  have a2:¬(z:Int)<224:=by omega
  have a3:224≤(z:Int):=by omega
  have a5:(z:Int)<240:=by omega
  have a4:¬240≤(z:Int):=by omega
  have hk:leadK (byteI s i)=3:=by
   unfold leadK
   repeat' split
   all_goals omega
  have hln:leadN (byteI s i)=(z:Int)-224:=by
   unfold leadN
   repeat' split
   all_goals omega
  have zz126:=@c635;exact c633
 ·have a1:192≤(z:Int):=by omega
  have a2:¬(z:Int)<224:=by omega
  have a3:224≤(z:Int):=by omega
  have a5:¬(z:Int)<240:=by omega
  have a4:240≤(z:Int):=by omega
  have a6:(z:Int)<248:=by omega
  have hk:leadK (byteI s i)=4:=by
   unfold leadK
   repeat' split
   all_goals omega
  have hln:leadN (byteI s i)=(z:Int)-240:=by
   unfold leadN
   repeat' split
   all_goals omega
  have zz126:=@c636;exact c633
theorem atP_dec (s:ByteArray)(i:Nat):(atP s i=(0,0)∧Utf8.decode s i=(65533,1))∨((atP s i).2≠0∧atP s i=(((Utf8.decode s i).1:Int),((Utf8.decode s i).2:Int))):=by
 obtain⟨b0,b1,b2,b3,e0,e1,e2,e3,hd⟩:=decN s i;unfold atP
 by_cases h1:byteI s i<128
 ·rw[if_pos h1];refine Or.inr ⟨by show(1:Int)≠0;decide,?_⟩
  rw[hd];unfold Lib.decodeN;rw[if_pos (by omega),e0];rfl
 rw[if_neg h1]
 by_cases h2:(Utf8.decode s i).2=1
 ·rw[if_pos h2];refine Or.inl ⟨rfl,?_⟩;rw[hd]at h2 ⊢;unfold Lib.decodeN at h2 ⊢;rw[if_neg (by omega)]at h2 ⊢
  repeat' split at h2
  all_goals first|(exfalso;simp at h2;done)|skip
  all_goals(repeat' split)
  all_goals first|rfl|(exfalso;omega)
 ·rw[if_neg h2];have:=decode_pos s i;exact Or.inr ⟨by show((Utf8.decode s i).2:Int)≠0;omega,rfl⟩
theorem decode_le (s:ByteArray)(i:Nat)(h:i<s.size):i+(Utf8.decode s i).2≤s.size:=by
 rw[Lib.decode_at];unfold Lib.decodeN
 repeat' split
 all_goals(simp only;omega)
theorem Tryz.infoI32':(Tryz.prog.info? 21).map (fun i=>(i.zero,i.size,i.bytes))=some (some (.int .i32 0),1,4):=by kernel_rfl
theorem Tryz.infoU8':(Tryz.prog.info? 5).map (fun i=>(i.zero,i.size,i.bytes))=some (some (.int .u8 0),1,1):=by kernel_rfl
set_option maxRecDepth 100000 in
set_option maxHeartbeats 4000000 in
theorem ref4_runes (s:ByteArray)(hs:s.size≤17592186044416)(w:World):Calls Tryz.prog 110 #[.string s] w fun e w'=>∃v,e= .returned v∧NewRow w w' 21 (Value.int .i32) v (runesS s):=by
 refine calls_hide fun R' hR'=>?_
 go_enter Tryz.func110,Tryz.ntmps110
 go_wp2_with fail
 go_loopw[3,4] (fun ov iv wr=>∃(pos:Nat) (acc:List Int) (A:Option Addr) (cp:Nat),ov= .slice A acc.length cp∧iv=I (pos:Int)∧pos≤s.size∧acc.length≤pos∧Hid (NewRow w wr 21 (Value.int .i32) (.slice A acc.length cp) acc)∧Hid (acc++runesF s s.size pos=runesS s)) (fun _ iv _=>s.size-(intOf iv).toNat)
 case atStart=>exact⟨0,[],some ⟨w.heap.size,0,none⟩,0,rfl,rfl,Nat.zero_le _,Nat.le_refl _,hid (NewRow.empty w _ _ (Value.int .i32) rfl),hid rfl⟩
 case round=>
  obtain⟨pos,acc,A,cp,rfl,rfl,hps,hap,HR,HE⟩:=hrel
  by_cases hp:pos<s.size
  ·have hpI:(pos:Int)<(s.size:Int):=by omega
   have hex:=HE.out;rw[runesF_next hp (by omega)]at hex
   have hle:=decode_le s pos hp;have hd1:=decode_pos s pos;have hbd:=decode_bound s pos;have hat:=atP_dec s pos;generalize hdd:Utf8.decode s pos=dd at*;obtain⟨dr,dk⟩:=dd;dsimp only at*;clear HE hdd
   go_wp2_with fail
   refine(ref4_at s hs pos hp wr).mono ?_;rintro e w2 ⟨rfl,hk⟩;have hsw:=HR.out.2.size;have hR2:NewRow w w2 21 (Value.int .i32) (.slice A acc.length cp) acc:=⟨ownB_keepS HR.out.1 hk,HR.out.2.trans (hk.mono fun b hb=>Nat.lt_of_lt_of_le hb hsw)⟩;have hs2:=hk.size;clear HR hk;have HR2:=hid hR2;have Hex:=hid hex;clear hR2 hex
   rcases hat with⟨h1,h2⟩|⟨h1,h2⟩
   ·rw[h1];injection h2 with h3 h4
    subst h3 h4;clear h1;obtain⟨i0,hi,hz0,hz1,hz2⟩:=info_partsF Tryz.infoI32'
    go_wp2_with (at_builtin;go_must (refine wpList_append_own_at _ rfl _ _ 179 rfl (w.heap.size) 21 i0 (.int .i32 0) 1 4 Tryz.underlying179 hi hz0 hz1 hz2 rfl (by decide) (.slice A acc.length cp) acc.length (acc.map (Value.int .i32)) rfl (ownB_keepS HR2.out.1 ((Keeps.refl _ _).alloc (fun b hb=>hb) _)) ⟨w2.heap.size,0,none⟩ 1 1 [.int .i32 65533] rfl (by simp) (own_news (own_lit w2 0 _ _ 1 1 [.int .i32 65533] rfl rfl (by decide) (Nat.zero_le _))) ?_ ?_ ?_ ?_ ?_))
    all_goals(try(first|with_reducible exact one1 _ _|with_reducible exact one2 _ _ _|with_reducible exact one4 _ _ _ _ _|with_reducible exact oneM _ _|exact rfl|exact fun _ _=>rfl|exact⟨rfl,rfl⟩|exact⟨rfl,rfl,rfl⟩|exact⟨rfl,rfl,rfl,rfl⟩|(unfold maxLen;omega)|omega|(simp;omega)|(simp;done)))
    (try clear hi)
    (try clear hz0)
    (try clear hz1)
    (try clear hz2)
    intro v' w6 hown hgr _ hf;have hN:=NewRow.push HR2.out hown hgr;obtain⟨A',cp',rfl⟩:=ownB_form hown;have hex2:(acc++[65533])++runesF s s.size (pos+1)=runesS s:=by rw[←Hex.out];simp
    clear hown hgr hf HR2;have HN:=hid hN;have Hex2:=hid hex2;clear hN hex2
    go_wp2_with fail
    go_roundw
    case rel=>exact⟨pos+1,acc++[65533],A',cp',by simp,by go_num,by omega,by simp;omega,by simpa using HN,Hex2⟩
    case measure=>exact msA
   ·rw[h2];rw[h2]at h1;dsimp only at h1;have hkb:((dk:Int)==0)=false:=by simpa using h1
    obtain⟨dx,hdx⟩:∃x:Int,x=(dr:Int):=⟨_,rfl⟩;rw[←hdx]at Hex ⊢;clear h1 h2 hdx;obtain⟨i0,hi,hz0,hz1,hz2⟩:=info_partsF Tryz.infoI32'
    go_wp2_with (at_builtin;go_must (refine wpList_append_own_at _ rfl _ _ 179 rfl (w.heap.size) 21 i0 (.int .i32 0) 1 4 Tryz.underlying179 hi hz0 hz1 hz2 rfl (by decide) (.slice A acc.length cp) acc.length (acc.map (Value.int .i32)) rfl (ownB_keepS HR2.out.1 ((Keeps.refl _ _).alloc (fun b hb=>hb) _)) ⟨w2.heap.size,0,none⟩ 1 1 [.int .i32 dx] rfl (by simp) (own_news (own_lit w2 0 _ _ 1 1 [.int .i32 dx] rfl rfl (by decide) (Nat.zero_le _))) ?_ ?_ ?_ ?_ ?_))
    all_goals(try(first|with_reducible exact one1 _ _|with_reducible exact one2 _ _ _|with_reducible exact one4 _ _ _ _ _|with_reducible exact oneM _ _|exact rfl|exact fun _ _=>rfl|exact⟨rfl,rfl⟩|exact⟨rfl,rfl,rfl⟩|exact⟨rfl,rfl,rfl,rfl⟩|(unfold maxLen;omega)|omega|(simp;omega)|(simp;done)))
    (try clear hi)
    (try clear hz0)
    (try clear hz1)
    (try clear hz2)
    intro v' w6 hown hgr _ hf;have hN:=NewRow.push HR2.out hown hgr;obtain⟨A',cp',rfl⟩:=ownB_form hown;have hex2:(acc++[dx])++runesF s s.size (pos+dk)=runesS s:=by rw[←Hex.out];simp
    clear hown hgr hf HR2;have HN:=hid hN;have Hex2:=hid hex2;clear hN hex2
    go_wp2_with fail
    go_roundw
    case rel=>exact⟨pos+dk,acc++[dx],A',cp',by simp,by go_num,by omega,by simp;omega,by simpa using HN,Hex2⟩
    case measure=>exact msA
  ·have hpI:¬(pos:Int)<(s.size:Int):=by omega
   have hex:=HE.out;rw[runesF_end hp,List.append_nil]at hex;have Hex:=hid hex;clear hex
   go_wp2_with fail
   exact hR'.out _ _ ⟨_,rfl,by rw[←Hex.out];exact HR.out⟩
theorem one8 (bs:List UInt8):∀u∈bs.map u8v,u.oneCell'=true:=by intro u hu;obtain⟨x,_,rfl⟩:=List.mem_map.1 hu;rfl
end Go.Proofs.YtogdknnkhkjmcaaGreatDoor
