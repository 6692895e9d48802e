/- Lemmas on the programs that the statement reaches. -/
import Derived.Test.YtogdknnkhkjmcaaGreatDoorKLwD
namespace Go.Proofs.YtogdknnkhkjmcaaGreatDoor
open Go.RowKit
set_option linter.all false
set_option maxRecDepth 100000 in
theorem classM_ifs (r:Int):classM r=if(48≤r∧r≤57)∨(1632≤r∧r≤1641)then 2 else if(19968≤r∧r≤40959)∨(44032≤r∧r≤55203)then 1 else if r<65 then 0 else if r≤90 then 1 else if r<97 then 0 else if r≤122 then 1 else if r<192 then 0 else if r≤214 then 1 else if r<216 then 0 else if r≤246 then 1 else if r<248 then 0 else if r≤591 then 1 else if r<902 then 0 else if r≤902 then 1 else if r<904 then 0 else if r≤906 then 1 else if r<908 then 0 else if r≤908 then 1 else if r<910 then 0 else if r≤929 then 1 else if r<931 then 0 else if r≤974 then 1 else if r<1024 then 0 else if r≤1153 then 1 else if r<1162 then 0 else if r≤1327 then 1 else if r<1488 then 0 else if r≤1514 then 1 else 0:=rfl
theorem i1:((1:Int)=0)=False:=by decide
theorem i2:((2:Int)=0)=False:=by decide
theorem i3:((3:Int)=0)=False:=by decide
theorem i4:((1:Int)=2)=False:=by decide
theorem i5:((1:Int)=3)=False:=by decide
theorem i6:((2:Int)=1)=False:=by decide
theorem i7:((2:Int)=3)=False:=by decide
theorem i8:((3:Int)=1)=False:=by decide
theorem i9:((3:Int)=2)=False:=by decide
set_option maxRecDepth 100000 in
set_option maxHeartbeats 2000000 in
theorem foldM_ifs (r:Int):foldM r=if r<65 then r else if r>90 then(if r<192 then r else if r>214 then(if r<216 then r else if r>222 then(if r<256 then r else if r>311 then(if r<313 then r else if r>328 then(if r<330 then r else if r>375 then(if r<376 then r else if r>376 then(if r<377 then r else if r>382 then(if r<383 then r else if r>383 then(if r<902 then r else if r>902 then(if r<904 then r else if r>906 then(if r<908 then r else if r>908 then(if r<910 then r else if r>911 then(if r<913 then r else if r>929 then(if r<931 then r else if r>939 then(if r<962 then r else if r>962 then(if r<1024 then r else if r>1039 then(if r<1040 then r else if r>1071 then(if r<1120 then r else if r>1153 then(if r<1162 then r else if r>1215 then(if r<1232 then r else if r>1327 then(if r<1632 then r else if r>1641 then(r)else r+(-1584))else(if r%2=0 then r+1 else r))else(if r%2=0 then r+1 else r))else(if r%2=0 then r+1 else r))else r+32)else r+80)else r+1)else r+32)else r+32)else r+63)else r+64)else r+37)else r+38)else r+(-268))else(if r%2=1 then r+1 else r))else r+(-121))else(if r%2=0 then r+1 else r))else(if r%2=1 then r+1 else r))else(if r%2=0 then r+1 else r))else r+32)else r+32)else r+32:=by
 unfold foldM movesP;simp only[foldL,i1,i2,i3,i4,i5,i6,i7,i8,i9,false_or,true_or,or_true,true_and,false_and,or_false,if_true]
set_option maxRecDepth 100000 in
theorem ref5_in (r lo hi:Int)(w:World):Z 116 #[.int .i32 r,.int .i32 lo,.int .i32 hi] w fun e w'=>∃b,e= .returned (.bool b)∧(b=true↔lo≤r∧r≤hi)∧w=w':=by
 refine calls_hide fun R' hR'=>?_
 go_enter Tryz.func116,Tryz.ntmps116
 by_cases h1:lo≤r
 ·by_cases h2:r≤hi
  ·have hk:(true=true↔lo≤r∧r≤hi):=⟨fun _=>⟨h1,h2⟩,fun _=>rfl⟩;have Hk:=hid hk;clear hk
   go_wp2_with fail
   exact hR'.out _ _ ⟨true,rfl,by first|exact Hk.out|exact⟨fun _=>Hk.out.1 True.intro,fun _=>rfl⟩,rfl⟩
  ·have hk:(false=true↔lo≤r∧r≤hi):=⟨fun h=>absurd h (by decide),fun h=>absurd h.2 h2⟩
   exact c128
 ·have hk:(false=true↔lo≤r∧r≤hi):=⟨fun h=>absurd h (by decide),fun h=>absurd h.1 h1⟩
  exact c128
set_option maxRecDepth 100000 in
set_option maxHeartbeats 8000000 in
theorem ref5_class (r:Int)(w:World)(hr0:0≤r)(hr1:r≤1114111):Z 111 #[.int .i32 r] w fun e w'=>e= .returned (I (classM r))∧w=w':=by
 refine calls_hide fun R' hR'=>?_
 go_enter Tryz.func111,Tryz.ntmps111
 go_wp2_with fail
 refine(ref5_in r 48 57 w).mono ?_;rintro e w2 ⟨b,rfl,hb,rfl⟩
 cases b with
 |true=>
  have H0:Hid ((48≤r∧r≤57)):=hid (hb.1 rfl);clear hb;have hm:classM r=2:=by have q0:=H0.out ;rw[classM_ifs] ;omega
  clear H0;exact c22
 |false=>
  have H0:Hid (¬(48≤r∧r≤57)):=hid (fun g=>absurd (hb.2 g) (by decide))
  clear hb
  go_wp2_with fail
  refine(ref5_in r 1632 1641 w).mono ?_;rintro e w2 ⟨b,rfl,hb,rfl⟩
  cases b with
  |true=>
   have H1:Hid ((1632≤r∧r≤1641)):=hid (hb.1 rfl);clear hb;have hm:classM r=2:=by have q0:=H0.out ;have q1:=H1.out ;rw[classM_ifs] ;omega
   clear H0 H1;exact c22
  |false=>
   have H1:Hid (¬(1632≤r∧r≤1641)):=hid (fun g=>absurd (hb.2 g) (by decide))
   clear hb
   go_wp2_with fail
   refine(ref5_in r 65 90 w).mono ?_;rintro e w2 ⟨b,rfl,hb,rfl⟩
   cases b with
   |true=>
    have H2:Hid ((65≤r∧r≤90)):=hid (hb.1 rfl);clear hb;have hm:classM r=1:=by have q0:=H0.out ;have q1:=H1.out ;have q2:=H2.out ;rw[classM_ifs] ;omega
    clear H0 H1 H2;exact c22
   |false=>
    have H2:Hid (¬(65≤r∧r≤90)):=hid (fun g=>absurd (hb.2 g) (by decide))
    clear hb
    go_wp2_with fail
    refine(ref5_in r 97 122 w).mono ?_;rintro e w2 ⟨b,rfl,hb,rfl⟩
    cases b with
    |true=>
     have H3:Hid ((97≤r∧r≤122)):=hid (hb.1 rfl);clear hb;have hm:classM r=1:=by have q0:=H0.out ;have q1:=H1.out ;have q2:=H2.out ;have q3:=H3.out ;rw[classM_ifs] ;omega
     clear H0 H1 H2 H3;exact c22
    |false=>
     have H3:Hid (¬(97≤r∧r≤122)):=hid (fun g=>absurd (hb.2 g) (by decide))
     clear hb
     go_wp2_with fail
     refine(ref5_in r 192 591 w).mono ?_;rintro e w2 ⟨b,rfl,hb,rfl⟩
     cases b with
     |true=>
      have H4:Hid ((192≤r∧r≤591)):=hid (hb.1 rfl);clear hb
      by_cases h5:r≠215
      ·skip
       have t5:(r !=215)=true:=by simpa using h5
       have H5:=hid h5;clear h5
       by_cases h6:r≠247
       ·skip
        have t6:(r !=247)=true:=by simpa using h6
        have H6:=hid h6;clear h6;exact c426
       ·replace h6:r=247:=by omega
        have t6:(r !=247)=false:=by simp[h6]
        have H6:=hid h6;clear h6;have h7:¬r=902:=by have q0:=H0.out ;have q1:=H1.out ;have q2:=H2.out ;have q3:=H3.out ;have q4:=H4.out ;have q5:=H5.out ;have q6:=H6.out ;omega
        have t7:(r==902)=false:=by simpa using h7
        have H7:=hid h7;clear h7
        go_wp2_with fail
        refine(ref5_in r 904 906 w).mono ?_;rintro e w2 ⟨b,rfl,hb,rfl⟩
        cases b with
        |true=>
         have H8:Hid ((904≤r∧r≤906)):=hid (hb.1 rfl);exact c43
        |false=>
         have H8:Hid (¬(904≤r∧r≤906)):=hid (fun g=>absurd (hb.2 g) (by decide))
         clear hb;have h9:¬r=908:=by have q0:=H0.out ;have q1:=H1.out ;have q2:=H2.out ;have q3:=H3.out ;have q4:=H4.out ;have q5:=H5.out ;have q6:=H6.out ;have q7:=H7.out ;have q8:=H8.out ;omega
         have t9:(r==908)=false:=by simpa using h9
         have H9:=hid h9;clear h9
         go_wp2_with fail
         refine(ref5_in r 910 929 w).mono ?_;rintro e w2 ⟨b,rfl,hb,rfl⟩
         cases b with
         |true=>
          have H10:Hid ((910≤r∧r≤929)):=hid (hb.1 rfl);exact c35
         |false=>
          have H10:Hid (¬(910≤r∧r≤929)):=hid (fun g=>absurd (hb.2 g) (by decide))
          clear hb
          go_wp2_with fail
          refine(ref5_in r 931 974 w).mono ?_;rintro e w2 ⟨b,rfl,hb,rfl⟩
          cases b with
          |true=>
           have H11:Hid ((931≤r∧r≤974)):=hid (hb.1 rfl);exact c44
          |false=>
           have H11:Hid (¬(931≤r∧r≤974)):=hid (fun g=>absurd (hb.2 g) (by decide))
           clear hb
           go_wp2_with fail
           refine(ref5_in r 1024 1153 w).mono ?_;rintro e w2 ⟨b,rfl,hb,rfl⟩
           cases b with
           |true=>
            have H12:Hid ((1024≤r∧r≤1153)):=hid (hb.1 rfl);exact c87
           |false=>
            have H12:Hid (¬(1024≤r∧r≤1153)):=hid (fun g=>absurd (hb.2 g) (by decide))
            clear hb
            go_wp2_with fail
            refine(ref5_in r 1162 1327 w).mono ?_;rintro e w2 ⟨b,rfl,hb,rfl⟩
            cases b with
            |true=>
             have H13:Hid ((1162≤r∧r≤1327)):=hid (hb.1 rfl);exact c52
            |false=>
             have H13:Hid (¬(1162≤r∧r≤1327)):=hid (fun g=>absurd (hb.2 g) (by decide))
             clear hb
             go_wp2_with fail
             refine(ref5_in r 1488 1514 w).mono ?_;rintro e w2 ⟨b,rfl,hb,rfl⟩
             cases b with
             |true=>
              have H14:Hid ((1488≤r∧r≤1514)):=hid (hb.1 rfl);exact c34
             |false=>
              have H14:Hid (¬(1488≤r∧r≤1514)):=hid (fun g=>absurd (hb.2 g) (by decide))
              clear hb
              go_wp2_with fail
              refine(ref5_in r 19968 40959 w).mono ?_;rintro e w2 ⟨b,rfl,hb,rfl⟩
              cases b with
              |true=>
               have H15:Hid ((19968≤r∧r≤40959)):=hid (hb.1 rfl);exact c28
              |false=>
               have H15:Hid (¬(19968≤r∧r≤40959)):=hid (fun g=>absurd (hb.2 g) (by decide))
               clear hb
               go_wp2_with fail
               refine(ref5_in r 44032 55203 w).mono ?_;rintro e w2 ⟨b,rfl,hb,rfl⟩
               cases b with
               |true=>
                have H16:Hid ((44032≤r∧r≤55203)):=hid (hb.1 rfl);exact c21
               |false=>
                have H16:Hid (¬(44032≤r∧r≤55203)):=hid (fun g=>absurd (hb.2 g) (by decide))
                clear hb;have hm:classM r=0:=by have q0:=H0.out ;have q1:=H1.out ;have q2:=H2.out ;have q3:=H3.out ;have q4:=H4.out ;have q5:=H5.out ;have q6:=H6.out ;have q7:=H7.out ;have q8:=H8.out ;have q9:=H9.out ;have q10:=H10.out ;have q11:=H11.out ;have q12:=H12.out ;have q13:=H13.out ;have q14:=H14.out ;have q15:=H15.out ;have q16:=H16.out ;rw[classM_ifs] ;omega
                clear H0 H1 H2 H3 H4 H5 H6 H7 H8 H9 H10 H11 H12 H13 H14 H15 H16;exact c22
      ·replace h5:r=215:=by omega
       have t5:(r !=215)=false:=by simp[h5]
       have H5:=hid h5;clear h5;have h6:¬r=902:=by have q0:=H0.out ;have q1:=H1.out ;have q2:=H2.out ;have q3:=H3.out ;have q4:=H4.out ;have q5:=H5.out ;omega
       have t6:(r==902)=false:=by simpa using h6
       have H6:=hid h6;clear h6
       go_wp2_with fail
       refine(ref5_in r 904 906 w).mono ?_;rintro e w2 ⟨b,rfl,hb,rfl⟩
       cases b with
       |true=>
        have H7:Hid ((904≤r∧r≤906)):=hid (hb.1 rfl);exact c46
       |false=>
        have H7:Hid (¬(904≤r∧r≤906)):=hid (fun g=>absurd (hb.2 g) (by decide))
        clear hb;have h8:¬r=908:=by have q0:=H0.out ;have q1:=H1.out ;have q2:=H2.out ;have q3:=H3.out ;have q4:=H4.out ;have q5:=H5.out ;have q6:=H6.out ;have q7:=H7.out ;omega
        have t8:(r==908)=false:=by simpa using h8
        have H8:=hid h8;clear h8
        go_wp2_with fail
        refine(ref5_in r 910 929 w).mono ?_;rintro e w2 ⟨b,rfl,hb,rfl⟩
        cases b with
        |true=>
         have H9:Hid ((910≤r∧r≤929)):=hid (hb.1 rfl);exact c40
        |false=>
         have H9:Hid (¬(910≤r∧r≤929)):=hid (fun g=>absurd (hb.2 g) (by decide))
         clear hb
         go_wp2_with fail
         refine(ref5_in r 931 974 w).mono ?_;rintro e w2 ⟨b,rfl,hb,rfl⟩
         cases b with
         |true=>
          have H10:Hid ((931≤r∧r≤974)):=hid (hb.1 rfl);exact c35
         |false=>
          have H10:Hid (¬(931≤r∧r≤974)):=hid (fun g=>absurd (hb.2 g) (by decide))
          clear hb
          go_wp2_with fail
          refine(ref5_in r 1024 1153 w).mono ?_;rintro e w2 ⟨b,rfl,hb,rfl⟩
          cases b with
          |true=>
           have H11:Hid ((1024≤r∧r≤1153)):=hid (hb.1 rfl);exact c44
          |false=>
           have H11:Hid (¬(1024≤r∧r≤1153)):=hid (fun g=>absurd (hb.2 g) (by decide))
           clear hb
           go_wp2_with fail
           refine(ref5_in r 1162 1327 w).mono ?_;rintro e w2 ⟨b,rfl,hb,rfl⟩
           cases b with
           |true=>
            have H12:Hid ((1162≤r∧r≤1327)):=hid (hb.1 rfl);exact c87
           |false=>
            have H12:Hid (¬(1162≤r∧r≤1327)):=hid (fun g=>absurd (hb.2 g) (by decide))
            clear hb
            go_wp2_with fail
            refine(ref5_in r 1488 1514 w).mono ?_;rintro e w2 ⟨b,rfl,hb,rfl⟩
            cases b with
            |true=>
             have H13:Hid ((1488≤r∧r≤1514)):=hid (hb.1 rfl);exact c52
            |false=>
             have H13:Hid (¬(1488≤r∧r≤1514)):=hid (fun g=>absurd (hb.2 g) (by decide))
             clear hb
             go_wp2_with fail
             refine(ref5_in r 19968 40959 w).mono ?_;rintro e w2 ⟨b,rfl,hb,rfl⟩
             cases b with
             |true=>
              have H14:Hid ((19968≤r∧r≤40959)):=hid (hb.1 rfl);exact c34
             |false=>
              have H14:Hid (¬(19968≤r∧r≤40959)):=hid (fun g=>absurd (hb.2 g) (by decide))
              clear hb
              go_wp2_with fail
              refine(ref5_in r 44032 55203 w).mono ?_;rintro e w2 ⟨b,rfl,hb,rfl⟩
              cases b with
              |true=>
               have H15:Hid ((44032≤r∧r≤55203)):=hid (hb.1 rfl);exact c28
              |false=>
               have H15:Hid (¬(44032≤r∧r≤55203)):=hid (fun g=>absurd (hb.2 g) (by decide))
               clear hb;have hm:classM r=0:=by have q0:=H0.out ;have q1:=H1.out ;have q2:=H2.out ;have q3:=H3.out ;have q4:=H4.out ;have q5:=H5.out ;have q6:=H6.out ;have q7:=H7.out ;have q8:=H8.out ;have q9:=H9.out ;have q10:=H10.out ;have q11:=H11.out ;have q12:=H12.out ;have q13:=H13.out ;have q14:=H14.out ;have q15:=H15.out ;rw[classM_ifs] ;omega
               clear H0 H1 H2 H3 H4 H5 H6 H7 H8 H9 H10 H11 H12 H13 H14 H15;exact c22
     |false=>
      have H4:Hid (¬(192≤r∧r≤591)):=hid (fun g=>absurd (hb.2 g) (by decide))
      clear hb
      by_cases h5:r=902
      ·skip
       have t5:(r==902)=true:=by simp[h5]
       have H5:=hid h5;clear h5;have hm:classM r=1:=by have q0:=H0.out ;have q1:=H1.out ;have q2:=H2.out ;have q3:=H3.out ;have q4:=H4.out ;have q5:=H5.out ;rw[classM_ifs] ;omega
       clear H0 H1 H2 H3 H4 H5;exact c22
      ·skip
       have t5:(r==902)=false:=by simpa using h5
       have H5:=hid h5;clear h5
       go_wp2_with fail
       refine(ref5_in r 904 906 w).mono ?_;rintro e w2 ⟨b,rfl,hb,rfl⟩
       cases b with
       |true=>
        have H6:Hid ((904≤r∧r≤906)):=hid (hb.1 rfl);clear hb;exact c426
       |false=>
        have H6:Hid (¬(904≤r∧r≤906)):=hid (fun g=>absurd (hb.2 g) (by decide))
        clear hb
        by_cases h7:r=908
        ·skip
         have t7:(r==908)=true:=by simp[h7]
         have H7:=hid h7;clear h7;have hm:classM r=1:=by have q0:=H0.out ;have q1:=H1.out ;have q2:=H2.out ;have q3:=H3.out ;have q4:=H4.out ;have q5:=H5.out ;have q6:=H6.out ;have q7:=H7.out ;rw[classM_ifs] ;omega
         clear H0 H1 H2 H3 H4 H5 H6 H7;exact c22
        ·skip
         have t7:(r==908)=false:=by simpa using h7
         have H7:=hid h7;clear h7
         go_wp2_with fail
         refine(ref5_in r 910 929 w).mono ?_;rintro e w2 ⟨b,rfl,hb,rfl⟩
         cases b with
         |true=>
          have H8:Hid ((910≤r∧r≤929)):=hid (hb.1 rfl);clear hb;have hm:classM r=1:=by have q0:=H0.out ;have q1:=H1.out ;have q2:=H2.out ;have q3:=H3.out ;have q4:=H4.out ;have q5:=H5.out ;have q6:=H6.out ;have q7:=H7.out ;have q8:=H8.out ;rw[classM_ifs] ;omega
          clear H0 H1 H2 H3 H4 H5 H6 H7 H8;exact c22
         |false=>
          have H8:Hid (¬(910≤r∧r≤929)):=hid (fun g=>absurd (hb.2 g) (by decide))
          clear hb
          go_wp2_with fail
          refine(ref5_in r 931 974 w).mono ?_;rintro e w2 ⟨b,rfl,hb,rfl⟩
          cases b with
          |true=>
           have H9:Hid ((931≤r∧r≤974)):=hid (hb.1 rfl);clear hb;have hm:classM r=1:=by have q0:=H0.out ;have q1:=H1.out ;have q2:=H2.out ;have q3:=H3.out ;have q4:=H4.out ;have q5:=H5.out ;have q6:=H6.out ;have q7:=H7.out ;have q8:=H8.out ;have q9:=H9.out ;rw[classM_ifs] ;omega
           clear H0 H1 H2 H3 H4 H5 H6 H7 H8 H9;exact c22
          |false=>
           have H9:Hid (¬(931≤r∧r≤974)):=hid (fun g=>absurd (hb.2 g) (by decide))
           clear hb
           go_wp2_with fail
           refine(ref5_in r 1024 1153 w).mono ?_;rintro e w2 ⟨b,rfl,hb,rfl⟩
           cases b with
           |true=>
            have H10:Hid ((1024≤r∧r≤1153)):=hid (hb.1 rfl);clear hb;have hm:classM r=1:=by have q0:=H0.out ;have q1:=H1.out ;have q2:=H2.out ;have q3:=H3.out ;have q4:=H4.out ;have q5:=H5.out ;have q6:=H6.out ;have q7:=H7.out ;have q8:=H8.out ;have q9:=H9.out ;have q10:=H10.out ;rw[classM_ifs] ;omega
            clear H0 H1 H2 H3 H4 H5 H6 H7 H8 H9 H10;exact c22
           |false=>
            have H10:Hid (¬(1024≤r∧r≤1153)):=hid (fun g=>absurd (hb.2 g) (by decide))
            clear hb
            go_wp2_with fail
            refine(ref5_in r 1162 1327 w).mono ?_;rintro e w2 ⟨b,rfl,hb,rfl⟩
            cases b with
            |true=>
             have H11:Hid ((1162≤r∧r≤1327)):=hid (hb.1 rfl);clear hb;have hm:classM r=1:=by have q0:=H0.out ;have q1:=H1.out ;have q2:=H2.out ;have q3:=H3.out ;have q4:=H4.out ;have q5:=H5.out ;have q6:=H6.out ;have q7:=H7.out ;have q8:=H8.out ;have q9:=H9.out ;have q10:=H10.out ;have q11:=H11.out ;rw[classM_ifs] ;omega
             clear H0 H1 H2 H3 H4 H5 H6 H7 H8 H9 H10 H11;exact c22
            |false=>
             have H11:Hid (¬(1162≤r∧r≤1327)):=hid (fun g=>absurd (hb.2 g) (by decide))
             clear hb
             go_wp2_with fail
             refine(ref5_in r 1488 1514 w).mono ?_;rintro e w2 ⟨b,rfl,hb,rfl⟩
             cases b with
             |true=>
              have H12:Hid ((1488≤r∧r≤1514)):=hid (hb.1 rfl);clear hb;have hm:classM r=1:=by have q0:=H0.out ;have q1:=H1.out ;have q2:=H2.out ;have q3:=H3.out ;have q4:=H4.out ;have q5:=H5.out ;have q6:=H6.out ;have q7:=H7.out ;have q8:=H8.out ;have q9:=H9.out ;have q10:=H10.out ;have q11:=H11.out ;have q12:=H12.out ;rw[classM_ifs] ;omega
              clear H0 H1 H2 H3 H4 H5 H6 H7 H8 H9 H10 H11 H12;exact c22
             |false=>
              have H12:Hid (¬(1488≤r∧r≤1514)):=hid (fun g=>absurd (hb.2 g) (by decide))
              clear hb
              go_wp2_with fail
              refine(ref5_in r 19968 40959 w).mono ?_;rintro e w2 ⟨b,rfl,hb,rfl⟩
              cases b with
              |true=>
               have H13:Hid ((19968≤r∧r≤40959)):=hid (hb.1 rfl);clear hb;have hm:classM r=1:=by have q0:=H0.out ;have q1:=H1.out ;have q2:=H2.out ;have q3:=H3.out ;have q4:=H4.out ;have q5:=H5.out ;have q6:=H6.out ;have q7:=H7.out ;have q8:=H8.out ;have q9:=H9.out ;have q10:=H10.out ;have q11:=H11.out ;have q12:=H12.out ;have q13:=H13.out ;rw[classM_ifs] ;omega
               clear H0 H1 H2 H3 H4 H5 H6 H7 H8 H9 H10 H11 H12 H13;exact c22
              |false=>
               have H13:Hid (¬(19968≤r∧r≤40959)):=hid (fun g=>absurd (hb.2 g) (by decide))
               clear hb
               go_wp2_with fail
               refine(ref5_in r 44032 55203 w).mono ?_;rintro e w2 ⟨b,rfl,hb,rfl⟩
               cases b with
               |true=>
                have H14:Hid ((44032≤r∧r≤55203)):=hid (hb.1 rfl);clear hb;have hm:classM r=1:=by have q0:=H0.out ;have q1:=H1.out ;have q2:=H2.out ;have q3:=H3.out ;have q4:=H4.out ;have q5:=H5.out ;have q6:=H6.out ;have q7:=H7.out ;have q8:=H8.out ;have q9:=H9.out ;have q10:=H10.out ;have q11:=H11.out ;have q12:=H12.out ;have q13:=H13.out ;have q14:=H14.out ;rw[classM_ifs] ;omega
                clear H0 H1 H2 H3 H4 H5 H6 H7 H8 H9 H10 H11 H12 H13 H14;exact c22
               |false=>
                have H14:Hid (¬(44032≤r∧r≤55203)):=hid (fun g=>absurd (hb.2 g) (by decide))
                clear hb;have hm:classM r=0:=by have q0:=H0.out ;have q1:=H1.out ;have q2:=H2.out ;have q3:=H3.out ;have q4:=H4.out ;have q5:=H5.out ;have q6:=H6.out ;have q7:=H7.out ;have q8:=H8.out ;have q9:=H9.out ;have q10:=H10.out ;have q11:=H11.out ;have q12:=H12.out ;have q13:=H13.out ;have q14:=H14.out ;rw[classM_ifs] ;omega
                clear H0 H1 H2 H3 H4 H5 H6 H7 H8 H9 H10 H11 H12 H13 H14;exact c22
set_option maxRecDepth 100000 in
set_option maxHeartbeats 8000000 in
theorem ref5_fold (r:Int)(w:World)(hr0:0≤r)(hr1:r≤1114111):Z 113 #[.int .i32 r] w fun e w'=>e= .returned (.int .i32 (foldM r))∧w=w':=by
 refine calls_hide fun R' hR'=>?_
 go_enter Tryz.func113,Tryz.ntmps113
 go_wp2_with fail
 refine(ref5_in r 65 90 w).mono ?_;rintro e w2 ⟨b,rfl,hb,rfl⟩
 cases b with
 |true=>
  have H0:Hid ((65≤r∧r≤90)):=hid (hb.1 rfl);clear hb;have hm:foldM r=r+32:=by have q0:=H0.out ;rw[foldM_ifs] ;omega
  clear H0;exact c11
 |false=>
  have H0:Hid (¬(65≤r∧r≤90)):=hid (fun g=>absurd (hb.2 g) (by decide))
  clear hb
  go_wp2_with fail
  refine(ref5_in r 192 222 w).mono ?_;rintro e w2 ⟨b,rfl,hb,rfl⟩
  cases b with
  |true=>
   have H1:Hid ((192≤r∧r≤222)):=hid (hb.1 rfl);clear hb
   by_cases h2:r≠215
   ·skip
    have t2:(r !=215)=true:=by simpa using h2
    have H2:=hid h2;clear h2;have hm:foldM r=r+32:=by have q0:=H0.out ;have q1:=H1.out ;have q2:=H2.out ;rw[foldM_ifs] ;omega
    clear H0 H1 H2;exact c11
   ·replace h2:r=215:=by omega
    have t2:(r !=215)=false:=by simp[h2]
    have H2:=hid h2;clear h2
    go_wp2_with fail
    refine(ref5_in r 913 939 w).mono ?_;rintro e w2 ⟨b,rfl,hb,rfl⟩
    cases b with
    |true=>
     have H3:Hid ((913≤r∧r≤939)):=hid (hb.1 rfl);clear hb;exact absurd True.intro (by have q0:=H0.out ;have q1:=H1.out ;have q2:=H2.out ;have q3:=H3.out ;omega)
    |false=>
     have H3:Hid (¬(913≤r∧r≤939)):=hid (fun g=>absurd (hb.2 g) (by decide))
     clear hb
     go_wp2_with fail
     refine(ref5_in r 1040 1071 w).mono ?_;rintro e w2 ⟨b,rfl,hb,rfl⟩
     cases b with
     |true=>
      exact c109
     |false=>
      have zz69:=PLift.up @c387;exact c386
  |false=>
   have H1:Hid (¬(192≤r∧r≤222)):=hid (fun g=>absurd (hb.2 g) (by decide))
   clear hb
   go_wp2_with fail
   refine(ref5_in r 913 939 w).mono ?_;rintro e w2 ⟨b,rfl,hb,rfl⟩
   cases b with
   |true=>
    have H2:Hid ((913≤r∧r≤939)):=hid (hb.1 rfl);clear hb
    by_cases h3:r≠930
    ·skip
     have t3:(r !=930)=true:=by simpa using h3
     have H3:=hid h3;clear h3;exact c431
    ·replace h3:r=930:=by omega
     have t3:(r !=930)=false:=by simp[h3]
     have H3:=hid h3;clear h3
     go_wp2_with fail
     refine(ref5_in r 1040 1071 w).mono ?_;rintro e w2 ⟨b,rfl,hb,rfl⟩
     cases b with
     |true=>
      exact c109
     |false=>
      have zz69:=PLift.up @c388;exact c386
   |false=>
    have H2:Hid (¬(913≤r∧r≤939)):=hid (fun g=>absurd (hb.2 g) (by decide))
    clear hb
    go_wp2_with fail
    refine(ref5_in r 1040 1071 w).mono ?_;rintro e w2 ⟨b,rfl,hb,rfl⟩
    cases b with
    |true=>
     have H3:Hid ((1040≤r∧r≤1071)):=hid (hb.1 rfl);clear hb;exact c431
    |false=>
     have H3:Hid (¬(1040≤r∧r≤1071)):=hid (fun g=>absurd (hb.2 g) (by decide))
     clear hb
     go_wp2_with fail
     refine(ref5_in r 256 311 w).mono ?_;rintro e w2 ⟨b,rfl,hb,rfl⟩
     cases b with
     |true=>
      have H4:Hid ((256≤r∧r≤311)):=hid (hb.1 rfl);clear hb
      go_wp2_with fail
      refine(ref5_in r 313 328 w).mono ?_;rintro e w2 ⟨b,rfl,hb,rfl⟩
      cases b with
      |true=>
       have H5:Hid ((313≤r∧r≤328)):=hid (hb.1 rfl);exact c89
      |false=>
       have H5:Hid (¬(313≤r∧r≤328)):=hid (fun g=>absurd (hb.2 g) (by decide))
       clear hb
       go_wp2_with fail
       refine(ref5_in r 377 382 w).mono ?_;rintro e w2 ⟨b,rfl,hb,rfl⟩
       cases b with
       |true=>
        have H6:Hid ((377≤r∧r≤382)):=hid (hb.1 rfl);exact c63
       |false=>
        have H6:Hid (¬(377≤r∧r≤382)):=hid (fun g=>absurd (hb.2 g) (by decide))
        clear hb
        by_cases h7:r%2=0
        ·skip
         have t7:(r%2==0)=true:=by simp[h7]
         have H7:=hid h7;clear h7;have hm:foldM r=r+1:=by have q0:=H0.out ;have q1:=H1.out ;have q2:=H2.out ;have q3:=H3.out ;have q4:=H4.out ;have q5:=H5.out ;have q6:=H6.out ;have q7:=H7.out ;rw[foldM_ifs] ;omega
         clear H0 H1 H2 H3 H4 H5 H6 H7;exact c11
        ·skip
         have t7:(r%2==0)=false:=by simpa using h7
         have H7:=hid h7;clear h7;have h8:¬r=376:=by have q0:=H0.out ;have q1:=H1.out ;have q2:=H2.out ;have q3:=H3.out ;have q4:=H4.out ;have q5:=H5.out ;have q6:=H6.out ;have q7:=H7.out ;omega
         have t8:(r==376)=false:=by simpa using h8
         have H8:=hid h8;clear h8;have h9:¬r=383:=by have q0:=H0.out ;have q1:=H1.out ;have q2:=H2.out ;have q3:=H3.out ;have q4:=H4.out ;have q5:=H5.out ;have q6:=H6.out ;have q7:=H7.out ;have q8:=H8.out ;omega
         have t9:(r==383)=false:=by simpa using h9
         have H9:=hid h9;clear h9;have h10:¬r=902:=by have q0:=H0.out ;have q1:=H1.out ;have q2:=H2.out ;have q3:=H3.out ;have q4:=H4.out ;have q5:=H5.out ;have q6:=H6.out ;have q7:=H7.out ;have q8:=H8.out ;have q9:=H9.out ;omega
         have t10:(r==902)=false:=by simpa using h10
         have H10:=hid h10;clear h10;have h11:¬r=908:=by have q0:=H0.out ;have q1:=H1.out ;have q2:=H2.out ;have q3:=H3.out ;have q4:=H4.out ;have q5:=H5.out ;have q6:=H6.out ;have q7:=H7.out ;have q8:=H8.out ;have q9:=H9.out ;have q10:=H10.out ;omega
         have t11:(r==908)=false:=by simpa using h11
         have H11:=hid h11;clear h11;have h12:¬r=962:=by have q0:=H0.out ;have q1:=H1.out ;have q2:=H2.out ;have q3:=H3.out ;have q4:=H4.out ;have q5:=H5.out ;have q6:=H6.out ;have q7:=H7.out ;have q8:=H8.out ;have q9:=H9.out ;have q10:=H10.out ;have q11:=H11.out ;omega
         have t12:(r==962)=false:=by simpa using h12
         have H12:=hid h12;clear h12
         go_wp2_with fail
         refine(ref5_in r 904 906 w).mono ?_;rintro e w2 ⟨b,rfl,hb,rfl⟩
         cases b with
         |true=>
          have H13:Hid ((904≤r∧r≤906)):=hid (hb.1 rfl);exact c52
         |false=>
          have H13:Hid (¬(904≤r∧r≤906)):=hid (fun g=>absurd (hb.2 g) (by decide))
          clear hb
          go_wp2_with fail
          refine(ref5_in r 910 911 w).mono ?_;rintro e w2 ⟨b,rfl,hb,rfl⟩
          cases b with
          |true=>
           have H14:Hid ((910≤r∧r≤911)):=hid (hb.1 rfl);exact c34
          |false=>
           have H14:Hid (¬(910≤r∧r≤911)):=hid (fun g=>absurd (hb.2 g) (by decide))
           clear hb
           go_wp2_with fail
           refine(ref5_in r 1024 1039 w).mono ?_;rintro e w2 ⟨b,rfl,hb,rfl⟩
           cases b with
           |true=>
            have H15:Hid ((1024≤r∧r≤1039)):=hid (hb.1 rfl);exact c28
           |false=>
            have H15:Hid (¬(1024≤r∧r≤1039)):=hid (fun g=>absurd (hb.2 g) (by decide))
            clear hb
            go_wp2_with fail
            refine(ref5_in r 1632 1641 w).mono ?_;rintro e w2 ⟨b,rfl,hb,rfl⟩
            cases b with
            |true=>
             have H16:Hid ((1632≤r∧r≤1641)):=hid (hb.1 rfl);exact c21
            |false=>
             have H16:Hid (¬(1632≤r∧r≤1641)):=hid (fun g=>absurd (hb.2 g) (by decide))
             clear hb;have hm:foldM r=r:=by have q0:=H0.out ;have q1:=H1.out ;have q2:=H2.out ;have q3:=H3.out ;have q4:=H4.out ;have q5:=H5.out ;have q6:=H6.out ;have q7:=H7.out ;have q8:=H8.out ;have q9:=H9.out ;have q10:=H10.out ;have q11:=H11.out ;have q12:=H12.out ;have q13:=H13.out ;have q14:=H14.out ;have q15:=H15.out ;have q16:=H16.out ;rw[foldM_ifs] ;omega
             clear H0 H1 H2 H3 H4 H5 H6 H7 H8 H9 H10 H11 H12 H13 H14 H15 H16;exact c11
     |false=>
      have H4:Hid (¬(256≤r∧r≤311)):=hid (fun g=>absurd (hb.2 g) (by decide))
      clear hb
      go_wp2_with fail
      refine(ref5_in r 330 375 w).mono ?_;rintro e w2 ⟨b,rfl,hb,rfl⟩
      cases b with
      |true=>
       have H5:Hid ((330≤r∧r≤375)):=hid (hb.1 rfl);clear hb
       go_wp2_with fail
       refine(ref5_in r 313 328 w).mono ?_;rintro e w2 ⟨b,rfl,hb,rfl⟩
       cases b with
       |true=>
        have H6:Hid ((313≤r∧r≤328)):=hid (hb.1 rfl);exact c63
       |false=>
        have H6:Hid (¬(313≤r∧r≤328)):=hid (fun g=>absurd (hb.2 g) (by decide))
        clear hb
        go_wp2_with fail
        refine(ref5_in r 377 382 w).mono ?_;rintro e w2 ⟨b,rfl,hb,rfl⟩
        cases b with
        |true=>
         have H7:Hid ((377≤r∧r≤382)):=hid (hb.1 rfl);exact c46
        |false=>
         have H7:Hid (¬(377≤r∧r≤382)):=hid (fun g=>absurd (hb.2 g) (by decide))
         clear hb
         by_cases h8:r%2=0
         ·skip
          have t8:(r%2==0)=true:=by simp[h8]
          have H8:=hid h8;clear h8;have hm:foldM r=r+1:=by have q0:=H0.out ;have q1:=H1.out ;have q2:=H2.out ;have q3:=H3.out ;have q4:=H4.out ;have q5:=H5.out ;have q6:=H6.out ;have q7:=H7.out ;have q8:=H8.out ;rw[foldM_ifs] ;omega
          clear H0 H1 H2 H3 H4 H5 H6 H7 H8;exact c11
         ·skip
          have t8:(r%2==0)=false:=by simpa using h8
          have H8:=hid h8;clear h8;have h9:¬r=376:=by have q0:=H0.out ;have q1:=H1.out ;have q2:=H2.out ;have q3:=H3.out ;have q4:=H4.out ;have q5:=H5.out ;have q6:=H6.out ;have q7:=H7.out ;have q8:=H8.out ;omega
          have t9:(r==376)=false:=by simpa using h9
          have H9:=hid h9;clear h9;have h10:¬r=383:=by have q0:=H0.out ;have q1:=H1.out ;have q2:=H2.out ;have q3:=H3.out ;have q4:=H4.out ;have q5:=H5.out ;have q6:=H6.out ;have q7:=H7.out ;have q8:=H8.out ;have q9:=H9.out ;omega
          have t10:(r==383)=false:=by simpa using h10
          have H10:=hid h10;clear h10;have h11:¬r=902:=by have q0:=H0.out ;have q1:=H1.out ;have q2:=H2.out ;have q3:=H3.out ;have q4:=H4.out ;have q5:=H5.out ;have q6:=H6.out ;have q7:=H7.out ;have q8:=H8.out ;have q9:=H9.out ;have q10:=H10.out ;omega
          have t11:(r==902)=false:=by simpa using h11
          have H11:=hid h11;clear h11;have h12:¬r=908:=by have q0:=H0.out ;have q1:=H1.out ;have q2:=H2.out ;have q3:=H3.out ;have q4:=H4.out ;have q5:=H5.out ;have q6:=H6.out ;have q7:=H7.out ;have q8:=H8.out ;have q9:=H9.out ;have q10:=H10.out ;have q11:=H11.out ;omega
          have t12:(r==908)=false:=by simpa using h12
          have H12:=hid h12;clear h12;have h13:¬r=962:=by have q0:=H0.out ;have q1:=H1.out ;have q2:=H2.out ;have q3:=H3.out ;have q4:=H4.out ;have q5:=H5.out ;have q6:=H6.out ;have q7:=H7.out ;have q8:=H8.out ;have q9:=H9.out ;have q10:=H10.out ;have q11:=H11.out ;have q12:=H12.out ;omega
          have t13:(r==962)=false:=by simpa using h13
          have H13:=hid h13;clear h13
          go_wp2_with fail
          refine(ref5_in r 904 906 w).mono ?_;rintro e w2 ⟨b,rfl,hb,rfl⟩
          cases b with
          |true=>
           have H14:Hid ((904≤r∧r≤906)):=hid (hb.1 rfl);exact c34
          |false=>
           have H14:Hid (¬(904≤r∧r≤906)):=hid (fun g=>absurd (hb.2 g) (by decide))
           clear hb
           go_wp2_with fail
           refine(ref5_in r 910 911 w).mono ?_;rintro e w2 ⟨b,rfl,hb,rfl⟩
           cases b with
           |true=>
            have H15:Hid ((910≤r∧r≤911)):=hid (hb.1 rfl);exact c28
           |false=>
            have H15:Hid (¬(910≤r∧r≤911)):=hid (fun g=>absurd (hb.2 g) (by decide))
            clear hb
            go_wp2_with fail
            refine(ref5_in r 1024 1039 w).mono ?_;rintro e w2 ⟨b,rfl,hb,rfl⟩
            cases b with
            |true=>
             have H16:Hid ((1024≤r∧r≤1039)):=hid (hb.1 rfl);exact c21
            |false=>
             have H16:Hid (¬(1024≤r∧r≤1039)):=hid (fun g=>absurd (hb.2 g) (by decide))
             clear hb
             go_wp2_with fail
             refine(ref5_in r 1632 1641 w).mono ?_;rintro e w2 ⟨b,rfl,hb,rfl⟩
             cases b with
             |true=>
              have H17:Hid ((1632≤r∧r≤1641)):=hid (hb.1 rfl);exact c16
             |false=>
              have H17:Hid (¬(1632≤r∧r≤1641)):=hid (fun g=>absurd (hb.2 g) (by decide))
              clear hb;have hm:foldM r=r:=by have q0:=H0.out ;have q1:=H1.out ;have q2:=H2.out ;have q3:=H3.out ;have q4:=H4.out ;have q5:=H5.out ;have q6:=H6.out ;have q7:=H7.out ;have q8:=H8.out ;have q9:=H9.out ;have q10:=H10.out ;have q11:=H11.out ;have q12:=H12.out ;have q13:=H13.out ;have q14:=H14.out ;have q15:=H15.out ;have q16:=H16.out ;have q17:=H17.out ;rw[foldM_ifs] ;omega
              clear H0 H1 H2 H3 H4 H5 H6 H7 H8 H9 H10 H11 H12 H13 H14 H15 H16 H17;exact c11
      |false=>
       have H5:Hid (¬(330≤r∧r≤375)):=hid (fun g=>absurd (hb.2 g) (by decide))
       clear hb
       go_wp2_with fail
       refine(ref5_in r 1120 1153 w).mono ?_;rintro e w2 ⟨b,rfl,hb,rfl⟩
       cases b with
       |true=>
        have H6:Hid ((1120≤r∧r≤1153)):=hid (hb.1 rfl);clear hb
        go_wp2_with fail
        refine(ref5_in r 313 328 w).mono ?_;rintro e w2 ⟨b,rfl,hb,rfl⟩
        cases b with
        |true=>
         have H7:Hid ((313≤r∧r≤328)):=hid (hb.1 rfl);exact c46
        |false=>
         have H7:Hid (¬(313≤r∧r≤328)):=hid (fun g=>absurd (hb.2 g) (by decide))
         clear hb
         go_wp2_with fail
         refine(ref5_in r 377 382 w).mono ?_;rintro e w2 ⟨b,rfl,hb,rfl⟩
         cases b with
         |true=>
          have H8:Hid ((377≤r∧r≤382)):=hid (hb.1 rfl);exact c43
         |false=>
          have H8:Hid (¬(377≤r∧r≤382)):=hid (fun g=>absurd (hb.2 g) (by decide))
          clear hb
          by_cases h9:r%2=0
          ·skip
           have t9:(r%2==0)=true:=by simp[h9]
           have H9:=hid h9;clear h9;have hm:foldM r=r+1:=by have q0:=H0.out ;have q1:=H1.out ;have q2:=H2.out ;have q3:=H3.out ;have q4:=H4.out ;have q5:=H5.out ;have q6:=H6.out ;have q7:=H7.out ;have q8:=H8.out ;have q9:=H9.out ;rw[foldM_ifs] ;omega
           clear H0 H1 H2 H3 H4 H5 H6 H7 H8 H9;exact c11
          ·skip
           have t9:(r%2==0)=false:=by simpa using h9
           have H9:=hid h9;clear h9;have h10:¬r=376:=by have q0:=H0.out ;have q1:=H1.out ;have q2:=H2.out ;have q3:=H3.out ;have q4:=H4.out ;have q5:=H5.out ;have q6:=H6.out ;have q7:=H7.out ;have q8:=H8.out ;have q9:=H9.out ;omega
           have t10:(r==376)=false:=by simpa using h10
           have H10:=hid h10;clear h10;have h11:¬r=383:=by have q0:=H0.out ;have q1:=H1.out ;have q2:=H2.out ;have q3:=H3.out ;have q4:=H4.out ;have q5:=H5.out ;have q6:=H6.out ;have q7:=H7.out ;have q8:=H8.out ;have q9:=H9.out ;have q10:=H10.out ;omega
           have t11:(r==383)=false:=by simpa using h11
           have H11:=hid h11;clear h11;have h12:¬r=902:=by have q0:=H0.out ;have q1:=H1.out ;have q2:=H2.out ;have q3:=H3.out ;have q4:=H4.out ;have q5:=H5.out ;have q6:=H6.out ;have q7:=H7.out ;have q8:=H8.out ;have q9:=H9.out ;have q10:=H10.out ;have q11:=H11.out ;omega
           have t12:(r==902)=false:=by simpa using h12
           have H12:=hid h12;clear h12;have h13:¬r=908:=by have q0:=H0.out ;have q1:=H1.out ;have q2:=H2.out ;have q3:=H3.out ;have q4:=H4.out ;have q5:=H5.out ;have q6:=H6.out ;have q7:=H7.out ;have q8:=H8.out ;have q9:=H9.out ;have q10:=H10.out ;have q11:=H11.out ;have q12:=H12.out ;omega
           have t13:(r==908)=false:=by simpa using h13
           have H13:=hid h13;clear h13;have h14:¬r=962:=by have q0:=H0.out ;have q1:=H1.out ;have q2:=H2.out ;have q3:=H3.out ;have q4:=H4.out ;have q5:=H5.out ;have q6:=H6.out ;have q7:=H7.out ;have q8:=H8.out ;have q9:=H9.out ;have q10:=H10.out ;have q11:=H11.out ;have q12:=H12.out ;have q13:=H13.out ;omega
           have t14:(r==962)=false:=by simpa using h14
           have H14:=hid h14;clear h14
           go_wp2_with fail
           refine(ref5_in r 904 906 w).mono ?_;rintro e w2 ⟨b,rfl,hb,rfl⟩
           cases b with
           |true=>
            have H15:Hid ((904≤r∧r≤906)):=hid (hb.1 rfl);exact c28
           |false=>
            have H15:Hid (¬(904≤r∧r≤906)):=hid (fun g=>absurd (hb.2 g) (by decide))
            clear hb
            go_wp2_with fail
            refine(ref5_in r 910 911 w).mono ?_;rintro e w2 ⟨b,rfl,hb,rfl⟩
            cases b with
            |true=>
             have H16:Hid ((910≤r∧r≤911)):=hid (hb.1 rfl);exact c21
            |false=>
             have H16:Hid (¬(910≤r∧r≤911)):=hid (fun g=>absurd (hb.2 g) (by decide))
             clear hb
             go_wp2_with fail
             refine(ref5_in r 1024 1039 w).mono ?_;rintro e w2 ⟨b,rfl,hb,rfl⟩
             cases b with
             |true=>
              have H17:Hid ((1024≤r∧r≤1039)):=hid (hb.1 rfl);exact c16
             |false=>
              have H17:Hid (¬(1024≤r∧r≤1039)):=hid (fun g=>absurd (hb.2 g) (by decide))
              clear hb
              go_wp2_with fail
              refine(ref5_in r 1632 1641 w).mono ?_;rintro e w2 ⟨b,rfl,hb,rfl⟩
              cases b with
              |true=>
               have H18:Hid ((1632≤r∧r≤1641)):=hid (hb.1 rfl);exact c395
              |false=>
               have H18:Hid (¬(1632≤r∧r≤1641)):=hid (fun g=>absurd (hb.2 g) (by decide))
               clear hb;have hm:foldM r=r:=by have q0:=H0.out ;have q1:=H1.out ;have q2:=H2.out ;have q3:=H3.out ;have q4:=H4.out ;have q5:=H5.out ;have q6:=H6.out ;have q7:=H7.out ;have q8:=H8.out ;have q9:=H9.out ;have q10:=H10.out ;have q11:=H11.out ;have q12:=H12.out ;have q13:=H13.out ;have q14:=H14.out ;have q15:=H15.out ;have q16:=H16.out ;have q17:=H17.out ;have q18:=H18.out ;rw[foldM_ifs] ;omega
               exact c435
       |false=>
        have H6:Hid (¬(1120≤r∧r≤1153)):=hid (fun g=>absurd (hb.2 g) (by decide))
        clear hb
        go_wp2_with fail
        refine(ref5_in r 1162 1215 w).mono ?_;rintro e w2 ⟨b,rfl,hb,rfl⟩
        cases b with
        |true=>
         have H7:Hid ((1162≤r∧r≤1215)):=hid (hb.1 rfl);clear hb
         go_wp2_with fail
         refine(ref5_in r 313 328 w).mono ?_;rintro e w2 ⟨b,rfl,hb,rfl⟩
         cases b with
         |true=>
          have H8:Hid ((313≤r∧r≤328)):=hid (hb.1 rfl);exact c43
         |false=>
          have H8:Hid (¬(313≤r∧r≤328)):=hid (fun g=>absurd (hb.2 g) (by decide))
          clear hb
          go_wp2_with fail
          refine(ref5_in r 377 382 w).mono ?_;rintro e w2 ⟨b,rfl,hb,rfl⟩
          cases b with
          |true=>
           have H9:Hid ((377≤r∧r≤382)):=hid (hb.1 rfl);exact c40
          |false=>
           have H9:Hid (¬(377≤r∧r≤382)):=hid (fun g=>absurd (hb.2 g) (by decide))
           clear hb
           by_cases h10:r%2=0
           ·skip
            have t10:(r%2==0)=true:=by simp[h10]
            have zz49:=PLift.up @c305;exact c304
           ·skip
            have t10:(r%2==0)=false:=by simpa using h10
            exact c6
        |false=>
         have H7:Hid (¬(1162≤r∧r≤1215)):=hid (fun g=>absurd (hb.2 g) (by decide))
         clear hb
         go_wp2_with fail
         refine(ref5_in r 1232 1327 w).mono ?_;rintro e w2 ⟨b,rfl,hb,rfl⟩
         cases b with
         |true=>
          have H8:Hid ((1232≤r∧r≤1327)):=hid (hb.1 rfl);clear hb
          go_wp2_with fail
          refine(ref5_in r 313 328 w).mono ?_;rintro e w2 ⟨b,rfl,hb,rfl⟩
          cases b with
          |true=>
           have H9:Hid ((313≤r∧r≤328)):=hid (hb.1 rfl);exact c40
          |false=>
           have zz167:=PLift.up @c779;exact c778
         |false=>
          have H8:Hid (¬(1232≤r∧r≤1327)):=hid (fun g=>absurd (hb.2 g) (by decide))
          clear hb
          go_wp2_with fail
          refine(ref5_in r 313 328 w).mono ?_;rintro e w2 ⟨b,rfl,hb,rfl⟩
          cases b with
          |true=>
           have H9:Hid ((313≤r∧r≤328)):=hid (hb.1 rfl);clear hb
           by_cases h10:r%2=1
           ·skip
            have t10:(r%2==1)=true:=by simp[h10]
            have zz49:=PLift.up @c306;exact c304
           ·skip
            have t10:(r%2==1)=false:=by simpa using h10
            exact c6
          |false=>
           have zz167:=PLift.up @c780;exact c778
end Go.Proofs.YtogdknnkhkjmcaaGreatDoor
