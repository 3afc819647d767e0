/- Joined. -/
import Derived.Test.YtjdccifdkjnknaaGreatDoorZC07
import Derived.Test.YtjdccifdkjnknaaGreatDoorZC10
