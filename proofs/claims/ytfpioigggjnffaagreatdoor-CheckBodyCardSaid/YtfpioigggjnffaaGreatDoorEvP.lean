/- EvP. -/
import Derived.Test.YtfpioigggjnffaaGreatDoorEvL
import Derived.Test.YtfpioigggjnffaaGreatDoorEvSc
import Derived.Test.YtfpioigggjnffaaGreatDoorETi
set_option linter.unnecessarySimpa false
set_option linter.unusedSimpArgs false
set_option linter.unusedVariables false
set_option autoImplicit false
namespace Go.Proofs.YtfpioigggjnffaaGreatDoor.E
open Go.Ev
def keepTab:Map (List Nat):=[(4027,[5,6,8,10]),(4028,[5]),(4029,[4]),(12012,[1,3]),(12013,[]),(12014,[2]),(13012,[1,3]),(13013,[]),(13014,[2]),(15009,[1,2,3,4]),(15010,[2,3]),(15011,[2]),(16009,[1,2,3,4]),(16010,[2,3]),(16011,[2]),(20012,[2,3,5]),(20013,[]),(20014,[4]),(21009,[1,2,3,4]),(21010,[2,3]),(21011,[2]),(22012,[0,5]),(22013,[]),(22014,[4]),(23027,[2,8,10,32,33,34]),(23028,[10]),(23029,[4,5]),(24027,[1,2,8,10,11]),(24028,[10]),(24029,[4,5]),(44009,[1,3,7,8,9]),(44010,[1,3]),(44011,[2]),(47006,[0,5,6]),(47007,[]),(47008,[2]),(48006,[1,3]),(48007,[1]),(48008,[2]),(48024,[1,4,5]),(48025,[1,4]),(48026,[2]),(49018,[1,3,4,5]),(49019,[1,3,4]),(49020,[2]),(54018,[0,5,6,7]),(54019,[0,5,6]),(54020,[]),(65006,[1,11,12,13]),(65007,[1]),(65008,[2]),(65027,[1,5,28,29,30]),(65028,[1,5]),(65029,[2]),(65042,[1,40,41,42]),(65043,[1]),(65044,[2]),(67012,[0,4,5,6]),(67013,[0,4,5]),(67014,[2,3]),(67024,[0,4,5,7]),(67025,[0,4,5]),(67026,[2,3]),(67060,[0,4,5,10]),(67061,[4]),(67062,[2,3]),(68012,[1,3]),(68013,[1]),(68014,[2]),(68027,[1,4]),(68028,[1]),(68029,[2]),(68042,[1,5]),(68043,[]),(68044,[2]),(93012,[0,1,12,13]),(93013,[]),(93014,[4]),(101009,[0,4,12,13,14]),(101010,[0,4]),(101011,[]),(121012,[1,2,4,6]),(121013,[2,4]),(121014,[4,5]),(122024,[7,8]),(122025,[7]),(122026,[4]),(123009,[1,2,5,13,14,15]),(123010,[5]),(123011,[4]),(128012,[0,1,6,7,8]),(128013,[]),(128014,[4,5]),(156006,[0,1,7,8]),(156007,[]),(156008,[4]),(177006,[0,3]),(177007,[]),(177008,[2]),(201006,[0,1,7,8]),(201007,[]),(201008,[4]),(213003,[0,1,3]),(213004,[]),(213005,[]),(220009,[0,3,9,10,11]),(220010,[0,3]),(220011,[2]),(220033,[6,25,26,27]),(220034,[6]),(220035,[2])]
def keeps (f k:Nat):List Nat:=match getM keepTab (f*1000+k) with
 |some l=>l
 |none=>[]
theorem kp4_27:keeps 4 27=[5,6,8,10]:=by kernel_rfl
theorem kp4_28:keeps 4 28=[5]:=by kernel_rfl
theorem kp4_29:keeps 4 29=[4]:=by kernel_rfl
theorem kp12_12:keeps 12 12=[1,3]:=by kernel_rfl
theorem kp12_13:keeps 12 13=[]:=by kernel_rfl
theorem kp12_14:keeps 12 14=[2]:=by kernel_rfl
theorem kp13_12:keeps 13 12=[1,3]:=by kernel_rfl
theorem kp13_13:keeps 13 13=[]:=by kernel_rfl
theorem kp13_14:keeps 13 14=[2]:=by kernel_rfl
theorem kp15_9:keeps 15 9=[1,2,3,4]:=by kernel_rfl
theorem kp15_10:keeps 15 10=[2,3]:=by kernel_rfl
theorem kp15_11:keeps 15 11=[2]:=by kernel_rfl
theorem kp16_9:keeps 16 9=[1,2,3,4]:=by kernel_rfl
theorem kp16_10:keeps 16 10=[2,3]:=by kernel_rfl
theorem kp16_11:keeps 16 11=[2]:=by kernel_rfl
theorem kp20_12:keeps 20 12=[2,3,5]:=by kernel_rfl
theorem kp20_13:keeps 20 13=[]:=by kernel_rfl
theorem kp20_14:keeps 20 14=[4]:=by kernel_rfl
theorem kp21_9:keeps 21 9=[1,2,3,4]:=by kernel_rfl
theorem kp21_10:keeps 21 10=[2,3]:=by kernel_rfl
theorem kp21_11:keeps 21 11=[2]:=by kernel_rfl
theorem kp22_12:keeps 22 12=[0,5]:=by kernel_rfl
theorem kp22_13:keeps 22 13=[]:=by kernel_rfl
theorem kp22_14:keeps 22 14=[4]:=by kernel_rfl
theorem kp23_27:keeps 23 27=[2,8,10,32,33,34]:=by kernel_rfl
theorem kp23_28:keeps 23 28=[10]:=by kernel_rfl
theorem kp23_29:keeps 23 29=[4,5]:=by kernel_rfl
theorem kp24_27:keeps 24 27=[1,2,8,10,11]:=by kernel_rfl
theorem kp24_28:keeps 24 28=[10]:=by kernel_rfl
theorem kp24_29:keeps 24 29=[4,5]:=by kernel_rfl
theorem kp44_9:keeps 44 9=[1,3,7,8,9]:=by kernel_rfl
theorem kp44_10:keeps 44 10=[1,3]:=by kernel_rfl
theorem kp44_11:keeps 44 11=[2]:=by kernel_rfl
theorem kp47_6:keeps 47 6=[0,5,6]:=by kernel_rfl
theorem kp47_7:keeps 47 7=[]:=by kernel_rfl
theorem kp47_8:keeps 47 8=[2]:=by kernel_rfl
theorem kp48_6:keeps 48 6=[1,3]:=by kernel_rfl
theorem kp48_7:keeps 48 7=[1]:=by kernel_rfl
theorem kp48_8:keeps 48 8=[2]:=by kernel_rfl
theorem kp48_24:keeps 48 24=[1,4,5]:=by kernel_rfl
theorem kp48_25:keeps 48 25=[1,4]:=by kernel_rfl
theorem kp48_26:keeps 48 26=[2]:=by kernel_rfl
theorem kp49_18:keeps 49 18=[1,3,4,5]:=by kernel_rfl
theorem kp49_19:keeps 49 19=[1,3,4]:=by kernel_rfl
theorem kp49_20:keeps 49 20=[2]:=by kernel_rfl
theorem kp54_18:keeps 54 18=[0,5,6,7]:=by kernel_rfl
theorem kp54_19:keeps 54 19=[0,5,6]:=by kernel_rfl
theorem kp54_20:keeps 54 20=[]:=by kernel_rfl
theorem kp65_6:keeps 65 6=[1,11,12,13]:=by kernel_rfl
theorem kp65_7:keeps 65 7=[1]:=by kernel_rfl
theorem kp65_8:keeps 65 8=[2]:=by kernel_rfl
theorem kp65_27:keeps 65 27=[1,5,28,29,30]:=by kernel_rfl
theorem kp65_28:keeps 65 28=[1,5]:=by kernel_rfl
theorem kp65_29:keeps 65 29=[2]:=by kernel_rfl
theorem kp65_42:keeps 65 42=[1,40,41,42]:=by kernel_rfl
theorem kp65_43:keeps 65 43=[1]:=by kernel_rfl
theorem kp65_44:keeps 65 44=[2]:=by kernel_rfl
theorem kp67_12:keeps 67 12=[0,4,5,6]:=by kernel_rfl
theorem kp67_13:keeps 67 13=[0,4,5]:=by kernel_rfl
theorem kp67_14:keeps 67 14=[2,3]:=by kernel_rfl
theorem kp67_24:keeps 67 24=[0,4,5,7]:=by kernel_rfl
theorem kp67_25:keeps 67 25=[0,4,5]:=by kernel_rfl
theorem kp67_26:keeps 67 26=[2,3]:=by kernel_rfl
theorem kp67_60:keeps 67 60=[0,4,5,10]:=by kernel_rfl
theorem kp67_61:keeps 67 61=[4]:=by kernel_rfl
theorem kp67_62:keeps 67 62=[2,3]:=by kernel_rfl
theorem kp68_12:keeps 68 12=[1,3]:=by kernel_rfl
theorem kp68_13:keeps 68 13=[1]:=by kernel_rfl
theorem kp68_14:keeps 68 14=[2]:=by kernel_rfl
theorem kp68_27:keeps 68 27=[1,4]:=by kernel_rfl
theorem kp68_28:keeps 68 28=[1]:=by kernel_rfl
theorem kp68_29:keeps 68 29=[2]:=by kernel_rfl
theorem kp68_42:keeps 68 42=[1,5]:=by kernel_rfl
theorem kp68_43:keeps 68 43=[]:=by kernel_rfl
theorem kp68_44:keeps 68 44=[2]:=by kernel_rfl
theorem kp93_12:keeps 93 12=[0,1,12,13]:=by kernel_rfl
theorem kp93_13:keeps 93 13=[]:=by kernel_rfl
theorem kp93_14:keeps 93 14=[4]:=by kernel_rfl
theorem kp101_9:keeps 101 9=[0,4,12,13,14]:=by kernel_rfl
theorem kp101_10:keeps 101 10=[0,4]:=by kernel_rfl
theorem kp101_11:keeps 101 11=[]:=by kernel_rfl
theorem kp121_12:keeps 121 12=[1,2,4,6]:=by kernel_rfl
theorem kp121_13:keeps 121 13=[2,4]:=by kernel_rfl
theorem kp121_14:keeps 121 14=[4,5]:=by kernel_rfl
theorem kp122_24:keeps 122 24=[7,8]:=by kernel_rfl
theorem kp122_25:keeps 122 25=[7]:=by kernel_rfl
theorem kp122_26:keeps 122 26=[4]:=by kernel_rfl
theorem kp123_9:keeps 123 9=[1,2,5,13,14,15]:=by kernel_rfl
theorem kp123_10:keeps 123 10=[5]:=by kernel_rfl
theorem kp123_11:keeps 123 11=[4]:=by kernel_rfl
theorem kp128_12:keeps 128 12=[0,1,6,7,8]:=by kernel_rfl
theorem kp128_13:keeps 128 13=[]:=by kernel_rfl
theorem kp128_14:keeps 128 14=[4,5]:=by kernel_rfl
theorem kp156_6:keeps 156 6=[0,1,7,8]:=by kernel_rfl
theorem kp156_7:keeps 156 7=[]:=by kernel_rfl
theorem kp156_8:keeps 156 8=[4]:=by kernel_rfl
theorem kp177_6:keeps 177 6=[0,3]:=by kernel_rfl
theorem kp177_7:keeps 177 7=[]:=by kernel_rfl
theorem kp177_8:keeps 177 8=[2]:=by kernel_rfl
theorem kp201_6:keeps 201 6=[0,1,7,8]:=by kernel_rfl
theorem kp201_7:keeps 201 7=[]:=by kernel_rfl
theorem kp201_8:keeps 201 8=[4]:=by kernel_rfl
theorem kp213_3:keeps 213 3=[0,1,3]:=by kernel_rfl
theorem kp213_4:keeps 213 4=[]:=by kernel_rfl
theorem kp213_5:keeps 213 5=[]:=by kernel_rfl
theorem kp220_9:keeps 220 9=[0,3,9,10,11]:=by kernel_rfl
theorem kp220_10:keeps 220 10=[0,3]:=by kernel_rfl
theorem kp220_11:keeps 220 11=[2]:=by kernel_rfl
theorem kp220_33:keeps 220 33=[6,25,26,27]:=by kernel_rfl
theorem kp220_34:keeps 220 34=[6]:=by kernel_rfl
theorem kp220_35:keeps 220 35=[2]:=by kernel_rfl
def tab0:List D:=[.int .i64 0, .int .i64 1, .int .i64 1, .int .i64 2, .int .i64 4, .int .i64 2, .int .i64 5, .int .i64 5, .int .i64 1, .int .i64 11, .int .i64 11, .int .i64 1, .int .i64 12, .int .i64 13, .int .i64 3, .int .i64 14, .int .i64 14, .int .i64 4, .int .i64 15, .int .i64 15, .int .i64 1, .int .i64 16, .int .i64 16, .int .i64 3, .int .i64 17, .int .i64 17, .int .i64 5, .int .i64 26, .int .i64 27, .int .i64 1, .int .i64 32, .int .i64 36, .int .i64 3, .int .i64 40, .int .i64 41, .int .i64 6, .int .i64 44, .int .i64 55, .int .i64 6, .int .i64 58, .int .i64 62, .int .i64 6, .int .i64 63, .int .i64 64, .int .i64 7, .int .i64 65, .int .i64 65, .int .i64 8, .int .i64 66, .int .i64 66, .int .i64 9, .int .i64 69, .int .i64 90, .int .i64 1, .int .i64 103, .int .i64 138, .int .i64 1, .int .i64 167, .int .i64 167, .int .i64 1, .int .i64 172, .int .i64 173, .int .i64 1]
def tab1:List D:=[.int .u8 127, .int .i64 4, .bool false, .bool false, .int .u8 126, .int .i64 8, .bool false, .bool false, .int .u8 0, .int .i64 0, .bool false, .bool false, .int .u8 0, .int .i64 0, .bool false, .bool false, .int .u8 127, .int .i64 1, .bool true, .bool false, .int .u8 127, .int .i64 1, .bool false, .bool false, .int .u8 127, .int .i64 2, .bool true, .bool false, .int .u8 127, .int .i64 2, .bool false, .bool false, .int .u8 126, .int .i64 1, .bool true, .bool false, .int .u8 126, .int .i64 1, .bool false, .bool false, .int .u8 126, .int .i64 2, .bool true, .bool false, .int .u8 126, .int .i64 2, .bool false, .bool false, .int .u8 126, .int .i64 4, .bool true, .bool false, .int .u8 126, .int .i64 4, .bool false, .bool false, .int .u8 127, .int .i64 4, .bool false, .bool true, .int .u8 126, .int .i64 8, .bool false, .bool true, .int .u8 0, .int .i64 0, .bool false, .bool false, .int .u8 0, .int .i64 0, .bool false, .bool false, .int .u8 127, .int .i64 1, .bool false, .bool true, .int .u8 127, .int .i64 2, .bool false, .bool true, .int .u8 126, .int .i64 1, .bool false, .bool true, .int .u8 126, .int .i64 2, .bool false, .bool true, .int .u8 126, .int .i64 4, .bool false, .bool true]
def liveTab:Nat→Map (List Nat)
 |3=>[(2,[3,4,5,6,9,32]),(8,[8])]
 |4=>[(2,[1,2,5,19]),(6,[5,6,8,53])]
 |11=>[(3,[0])]
 |12=>[(1,[1,31]),(6,[1,3,56])]
 |13=>[(1,[1,13])]
 |14=>[(1,[3,4,5,6,16])]
 |17=>[(1,[3,4,5,6,19]),(9,[3,5,6,8,9,10,11,46])]
 |18=>[(1,[1,2,4,14])]
 |19=>[(1,[1,2,4,33])]
 |20=>[(1,[2,3,21])]
 |43=>[(1,[4])]
 |44=>[(5,[1,5,7,8,9,22]),(9,[2])]
 |45=>[(4,[1,3,4,30]),(11,[2]),(16,[2]),(20,[2])]
 |47=>[(4,[0,4,5,6,18])]
 |48=>[(4,[1,3,34]),(10,[1,5,59])]
 |49=>[(2,[1,3,4]),(3,[1,3,4,46]),(8,[1,3,4,5]),(15,[2]),(20,[2]),(22,[2]),(24,[2])]
 |50=>[(4,[5,6,16])]
 |53=>[(11,[0]),(17,[0,7])]
 |55=>[(3,[0,4,5,6,7])]
 |56=>[(6,[0,4,5])]
 |57=>[(9,[0,5,6]),(10,[0,5,6,72]),(12,[0,6,89])]
 |58=>[(3,[0,6]),(12,[0,6])]
 |62=>[(1,[1,2,4,14])]
 |63=>[(1,[4])]
 |65=>[(16,[1,40,41,42,51])]
 |66=>[(1,[1,2,3,6,16])]
 |67=>[(22,[0,4,5,10,92])]
 |68=>[(1,[1,15])]
 |69=>[(1,[1,2,3,6,16])]
 |94=>[(1,[2])]
 |96=>[(1,[2])]
 |102=>[(2,[0,4])]
 |103=>[(3,[0,4,7])]
 |108=>[(1,[2])]
 |109=>[(1,[0,6]),(3,[0,13]),(9,[0,38]),(11,[0,61]),(17,[0,74])]
 |110=>[(1,[0,4]),(3,[0,13]),(5,[0,22]),(7,[0,31])]
 |115=>[(0,[0,2,14])]
 |120=>[(1,[1,2,4,15])]
 |121=>[(9,[1,2,4,6,7,47])]
 |122=>[(4,[0,6,26])]
 |125=>[(2,[2])]
 |127=>[(1,[2])]
 |128=>[(8,[0,1,6,7,8,25]),(9,[0,1,6,8,45]),(12,[0,1,6,7,8,47])]
 |130=>[(1,[2])]
 |133=>[(5,[0,1,3,6,9,11,34]),(13,[0,1,9,11,12,82])]
 |153=>[(1,[2])]
 |155=>[(1,[2])]
 |162=>[(0,[0,2,14])]
 |163=>[(6,[8])]
 |164=>[(4,[0,4,23])]
 |166=>[(1,[0,12])]
 |167=>[(2,[0]),(7,[0,6])]
 |169=>[(2,[0,2,3])]
 |170=>[(19,[41])]
 |171=>[(3,[1,2,18])]
 |176=>[(1,[2])]
 |177=>[(4,[0,3,21])]
 |203=>[(1,[1,2,4,14])]
 |204=>[(3,[1,2,11])]
 |206=>[(1,[1,2,4,13])]
 |210=>[(1,[6])]
 |_=>[]
def lives (f k:Nat):List Nat:=match getM (liveTab f) k with
 |some l=>l
 |none=>[]
theorem lv3:liveTab 3=[(2,[3,4,5,6,9,32]),(8,[8])]:=rfl
theorem lv4:liveTab 4=[(2,[1,2,5,19]),(6,[5,6,8,53])]:=rfl
theorem lv11:liveTab 11=[(3,[0])]:=rfl
theorem lv12:liveTab 12=[(1,[1,31]),(6,[1,3,56])]:=rfl
theorem lv13:liveTab 13=[(1,[1,13])]:=rfl
theorem lv14:liveTab 14=[(1,[3,4,5,6,16])]:=rfl
theorem lv15:liveTab 15=[]:=rfl
theorem lv16:liveTab 16=[]:=rfl
theorem lv17:liveTab 17=[(1,[3,4,5,6,19]),(9,[3,5,6,8,9,10,11,46])]:=rfl
theorem lv18:liveTab 18=[(1,[1,2,4,14])]:=rfl
theorem lv19:liveTab 19=[(1,[1,2,4,33])]:=rfl
theorem lv20:liveTab 20=[(1,[2,3,21])]:=rfl
theorem lv21:liveTab 21=[]:=rfl
theorem lv22:liveTab 22=[]:=rfl
theorem lv23:liveTab 23=[]:=rfl
theorem lv24:liveTab 24=[]:=rfl
theorem lv25:liveTab 25=[]:=rfl
theorem lv26:liveTab 26=[]:=rfl
theorem lv43:liveTab 43=[(1,[4])]:=rfl
theorem lv44:liveTab 44=[(5,[1,5,7,8,9,22]),(9,[2])]:=rfl
theorem lv45:liveTab 45=[(4,[1,3,4,30]),(11,[2]),(16,[2]),(20,[2])]:=rfl
theorem lv46:liveTab 46=[]:=rfl
theorem lv47:liveTab 47=[(4,[0,4,5,6,18])]:=rfl
theorem lv48:liveTab 48=[(4,[1,3,34]),(10,[1,5,59])]:=rfl
theorem lv49:liveTab 49=[(2,[1,3,4]),(3,[1,3,4,46]),(8,[1,3,4,5]),(15,[2]),(20,[2]),(22,[2]),(24,[2])]:=rfl
theorem lv50:liveTab 50=[(4,[5,6,16])]:=rfl
theorem lv51:liveTab 51=[]:=rfl
theorem lv52:liveTab 52=[]:=rfl
theorem lv53:liveTab 53=[(11,[0]),(17,[0,7])]:=rfl
theorem lv54:liveTab 54=[]:=rfl
theorem lv55:liveTab 55=[(3,[0,4,5,6,7])]:=rfl
theorem lv56:liveTab 56=[(6,[0,4,5])]:=rfl
theorem lv57:liveTab 57=[(9,[0,5,6]),(10,[0,5,6,72]),(12,[0,6,89])]:=rfl
theorem lv58:liveTab 58=[(3,[0,6]),(12,[0,6])]:=rfl
theorem lv59:liveTab 59=[]:=rfl
theorem lv60:liveTab 60=[]:=rfl
theorem lv61:liveTab 61=[]:=rfl
theorem lv62:liveTab 62=[(1,[1,2,4,14])]:=rfl
theorem lv63:liveTab 63=[(1,[4])]:=rfl
theorem lv64:liveTab 64=[]:=rfl
theorem lv65:liveTab 65=[(16,[1,40,41,42,51])]:=rfl
theorem lv66:liveTab 66=[(1,[1,2,3,6,16])]:=rfl
theorem lv67:liveTab 67=[(22,[0,4,5,10,92])]:=rfl
theorem lv68:liveTab 68=[(1,[1,15])]:=rfl
theorem lv69:liveTab 69=[(1,[1,2,3,6,16])]:=rfl
theorem lv70:liveTab 70=[]:=rfl
theorem lv71:liveTab 71=[]:=rfl
theorem lv84:liveTab 84=[]:=rfl
theorem lv93:liveTab 93=[]:=rfl
theorem lv94:liveTab 94=[(1,[2])]:=rfl
theorem lv95:liveTab 95=[]:=rfl
theorem lv96:liveTab 96=[(1,[2])]:=rfl
theorem lv97:liveTab 97=[]:=rfl
theorem lv98:liveTab 98=[]:=rfl
theorem lv99:liveTab 99=[]:=rfl
theorem lv100:liveTab 100=[]:=rfl
theorem lv101:liveTab 101=[]:=rfl
theorem lv102:liveTab 102=[(2,[0,4])]:=rfl
theorem lv103:liveTab 103=[(3,[0,4,7])]:=rfl
theorem lv104:liveTab 104=[]:=rfl
theorem lv105:liveTab 105=[]:=rfl
theorem lv106:liveTab 106=[]:=rfl
theorem lv107:liveTab 107=[]:=rfl
theorem lv108:liveTab 108=[(1,[2])]:=rfl
theorem lv109:liveTab 109=[(1,[0,6]),(3,[0,13]),(9,[0,38]),(11,[0,61]),(17,[0,74])]:=rfl
theorem lv110:liveTab 110=[(1,[0,4]),(3,[0,13]),(5,[0,22]),(7,[0,31])]:=rfl
theorem lv111:liveTab 111=[]:=rfl
theorem lv112:liveTab 112=[]:=rfl
theorem lv113:liveTab 113=[]:=rfl
theorem lv114:liveTab 114=[]:=rfl
theorem lv115:liveTab 115=[(0,[0,2,14])]:=rfl
theorem lv116:liveTab 116=[]:=rfl
theorem lv117:liveTab 117=[]:=rfl
theorem lv118:liveTab 118=[]:=rfl
theorem lv119:liveTab 119=[]:=rfl
theorem lv120:liveTab 120=[(1,[1,2,4,15])]:=rfl
theorem lv121:liveTab 121=[(9,[1,2,4,6,7,47])]:=rfl
theorem lv122:liveTab 122=[(4,[0,6,26])]:=rfl
theorem lv123:liveTab 123=[]:=rfl
theorem lv124:liveTab 124=[]:=rfl
theorem lv125:liveTab 125=[(2,[2])]:=rfl
theorem lv126:liveTab 126=[]:=rfl
theorem lv127:liveTab 127=[(1,[2])]:=rfl
theorem lv128:liveTab 128=[(8,[0,1,6,7,8,25]),(9,[0,1,6,8,45]),(12,[0,1,6,7,8,47])]:=rfl
theorem lv129:liveTab 129=[]:=rfl
theorem lv130:liveTab 130=[(1,[2])]:=rfl
theorem lv131:liveTab 131=[]:=rfl
theorem lv132:liveTab 132=[]:=rfl
theorem lv133:liveTab 133=[(5,[0,1,3,6,9,11,34]),(13,[0,1,9,11,12,82])]:=rfl
theorem lv153:liveTab 153=[(1,[2])]:=rfl
theorem lv154:liveTab 154=[]:=rfl
theorem lv155:liveTab 155=[(1,[2])]:=rfl
theorem lv156:liveTab 156=[]:=rfl
theorem lv157:liveTab 157=[]:=rfl
theorem lv158:liveTab 158=[]:=rfl
theorem lv159:liveTab 159=[]:=rfl
theorem lv160:liveTab 160=[]:=rfl
theorem lv161:liveTab 161=[]:=rfl
theorem lv162:liveTab 162=[(0,[0,2,14])]:=rfl
theorem lv163:liveTab 163=[(6,[8])]:=rfl
theorem lv164:liveTab 164=[(4,[0,4,23])]:=rfl
theorem lv165:liveTab 165=[]:=rfl
theorem lv166:liveTab 166=[(1,[0,12])]:=rfl
theorem lv167:liveTab 167=[(2,[0]),(7,[0,6])]:=rfl
theorem lv168:liveTab 168=[]:=rfl
theorem lv169:liveTab 169=[(2,[0,2,3])]:=rfl
theorem lv170:liveTab 170=[(19,[41])]:=rfl
theorem lv171:liveTab 171=[(3,[1,2,18])]:=rfl
theorem lv172:liveTab 172=[]:=rfl
theorem lv173:liveTab 173=[]:=rfl
theorem lv174:liveTab 174=[]:=rfl
theorem lv175:liveTab 175=[]:=rfl
theorem lv176:liveTab 176=[(1,[2])]:=rfl
theorem lv177:liveTab 177=[(4,[0,3,21])]:=rfl
theorem lv178:liveTab 178=[]:=rfl
theorem lv179:liveTab 179=[]:=rfl
theorem lv180:liveTab 180=[]:=rfl
theorem lv201:liveTab 201=[]:=rfl
theorem lv202:liveTab 202=[]:=rfl
theorem lv203:liveTab 203=[(1,[1,2,4,14])]:=rfl
theorem lv204:liveTab 204=[(3,[1,2,11])]:=rfl
theorem lv205:liveTab 205=[]:=rfl
theorem lv206:liveTab 206=[(1,[1,2,4,13])]:=rfl
theorem lv207:liveTab 207=[]:=rfl
theorem lv208:liveTab 208=[]:=rfl
theorem lv209:liveTab 209=[]:=rfl
theorem lv210:liveTab 210=[(1,[6])]:=rfl
theorem lv212:liveTab 212=[]:=rfl
theorem lv213:liveTab 213=[]:=rfl
theorem lv220:liveTab 220=[]:=rfl
theorem lv224:liveTab 224=[]:=rfl
def globs:Nat→Option (List D)
 |0=>some tab0
 |1=>some tab1
 |_=>none
def owns:Nat→Bool
 |224=>true
 |52=>true
 |_=>false
noncomputable def G0 (fuel:Nat):Cfg:=⟨Tryz.prog,fuel,keeps,globs,owns,fun _=>none,lives⟩
theorem G0P (fu:Nat):(G0 fu).P=Tryz.prog:=rfl
theorem G0fuel (fu:Nat):(G0 fu).fuel=fu:=rfl
theorem G0keep (fu f:Nat):(G0 fu).keep f=keeps f:=rfl
theorem G0own (fu f:Nat):(G0 fu).own f=owns f:=rfl
theorem G0glob (fu:Nat):(G0 fu).glob=globs:=rfl
theorem G0live (fu f:Nat):(G0 fu).live f=lives f:=rfl
theorem G0ext (fu f:Nat):(G0 fu).ext f=none:=rfl
noncomputable def exts (fu:Nat) (f:Nat):Option (List V→List Go.Ev.Obj→Option Res):=if f=84 then some (cloneX (G0 fu) 84 1) else if f=126 then some (cloneX (G0 fu) 126 4) else if f=132 then some (rangeX (G0 fu) (evF (G0 fu) 4) 213 132) else none
def isExt (f:Nat):Bool:=f==84||f==126||f==132||false
theorem exts_no (fu:Nat) {f:Nat} (h:isExt f=false):exts fu f=none:=by
 simp only[isExt,Bool.or_eq_false_iff,beq_eq_false_iff_ne,ne_eq] at h
 simp[exts,h]
theorem exts_84 (fu:Nat):exts fu 84=some (cloneX (G0 fu) 84 1):=by simp[exts]
theorem exts_126 (fu:Nat):exts fu 126=some (cloneX (G0 fu) 126 4):=by simp[exts]
theorem exts_132 (fu:Nat):exts fu 132=some (rangeX (G0 fu) (evF (G0 fu) 4) 213 132):=by simp[exts]
noncomputable def G (fuel:Nat):Cfg:=⟨Tryz.prog,fuel,keeps,globs,owns,exts fuel,lives⟩
theorem GP (fu:Nat):(G fu).P=Tryz.prog:=rfl
theorem Gext (fu:Nat) (f:Nat):(G fu).ext f=exts fu f:=rfl
theorem Gfuel (fu:Nat):(G fu).fuel=fu:=rfl
theorem Gkeep (fu f:Nat):(G fu).keep f=keeps f:=rfl
theorem Gown (fu f:Nat):(G fu).own f=owns f:=rfl
theorem Gglob (fu:Nat):(G fu).glob=globs:=rfl
theorem Glive (fu f:Nat):(G fu).live f=lives f:=rfl
attribute [go_sem] lives Glive G0live G0ext GP Gext Gfuel Gkeep Gown Gglob G0P G0fuel G0keep G0own G0glob owns globs kp4_27 kp4_28 kp4_29 kp12_12 kp12_13 kp12_14 kp13_12 kp13_13 kp13_14 kp15_9 kp15_10 kp15_11 kp16_9 kp16_10 kp16_11 kp20_12 kp20_13 kp20_14 kp21_9 kp21_10 kp21_11 kp22_12 kp22_13 kp22_14 kp23_27 kp23_28 kp23_29 kp24_27 kp24_28 kp24_29 kp44_9 kp44_10 kp44_11 kp47_6 kp47_7 kp47_8 kp48_6 kp48_7 kp48_8 kp48_24 kp48_25 kp48_26 kp49_18 kp49_19 kp49_20 kp54_18 kp54_19 kp54_20 kp65_6 kp65_7 kp65_8 kp65_27 kp65_28 kp65_29 kp65_42 kp65_43 kp65_44 kp67_12 kp67_13 kp67_14 kp67_24 kp67_25 kp67_26 kp67_60 kp67_61 kp67_62 kp68_12 kp68_13 kp68_14 kp68_27 kp68_28 kp68_29 kp68_42 kp68_43 kp68_44 kp93_12 kp93_13 kp93_14 kp101_9 kp101_10 kp101_11 kp121_12 kp121_13 kp121_14 kp122_24 kp122_25 kp122_26 kp123_9 kp123_10 kp123_11 kp128_12 kp128_13 kp128_14 kp156_6 kp156_7 kp156_8 kp177_6 kp177_7 kp177_8 kp201_6 kp201_7 kp201_8 kp213_3 kp213_4 kp213_5 kp220_9 kp220_10 kp220_11 kp220_33 kp220_34 kp220_35 lv3 lv4 lv11 lv12 lv13 lv14 lv15 lv16 lv17 lv18 lv19 lv20 lv21 lv22 lv23 lv24 lv25 lv26 lv43 lv44 lv45 lv46 lv47 lv48 lv49 lv50 lv51 lv52 lv53 lv54 lv55 lv56 lv57 lv58 lv59 lv60 lv61 lv62 lv63 lv64 lv65 lv66 lv67 lv68 lv69 lv70 lv71 lv84 lv93 lv94 lv95 lv96 lv97 lv98 lv99 lv100 lv101 lv102 lv103 lv104 lv105 lv106 lv107 lv108 lv109 lv110 lv111 lv112 lv113 lv114 lv115 lv116 lv117 lv118 lv119 lv120 lv121 lv122 lv123 lv124 lv125 lv126 lv127 lv128 lv129 lv130 lv131 lv132 lv133 lv153 lv154 lv155 lv156 lv157 lv158 lv159 lv160 lv161 lv162 lv163 lv164 lv165 lv166 lv167 lv168 lv169 lv170 lv171 lv172 lv173 lv174 lv175 lv176 lv177 lv178 lv179 lv180 lv201 lv202 lv203 lv204 lv205 lv206 lv207 lv208 lv209 lv210 lv212 lv213 lv220 lv224
end Go.Proofs.YtfpioigggjnffaaGreatDoor.E
